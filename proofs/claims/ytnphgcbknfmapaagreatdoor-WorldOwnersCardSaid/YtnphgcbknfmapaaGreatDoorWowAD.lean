/- Contracts of the functions that the statement reaches, and the plain mathematics beneath: several texts joined. -/
import Derived.WalkKit
import Derived.WalkSmall
import Derived.OwnWalk
import Derived.StillTailTactics
import Derived.Laws.AppendOwn
import Derived.Deep.AppendLies
import Derived.Deep.RegionLaw
import Derived.Sort.Grow
import Derived.Sort.Row
import Derived.Deep.Cut
import Derived.Deep.CutBlock
import Derived.Deep.DeepCutAuto
import Derived.Laws.ResultCell
import Derived.Test.YtnphgcbknfmapaaGreatDoorWowAC
import Derived.Test.YtnphgcbknfmapaaGreatDoorShelf
import Derived.Test.YtnphgcbknfmapaaGreatDoorWowAA
import Derived.Test.YtnphgcbknfmapaaGreatDoorWowAB
namespace Go.Proofs.YtnphgcbknfmapaaGreatDoor
open Go.RowKit Go.Lib
set_option linter.unusedVariables false

/-- May a byte stand in a name? -/
def nmC (c : UInt8) : Bool := (97 ≤ c && c ≤ 122) || (48 ≤ c && c ≤ 57) || c == 95
/-- Is a text a name? -/
def nmB (l : List UInt8) : Bool := decide (1 ≤ l.length) && decide (l.length ≤ 32) && !(48 ≤ l.headD 0 && l.headD 0 ≤ 57) && l.all nmC
theorem ret_bool {a b : Bool} (h : a = b) : Ending.returned (.bool a) = .returned (.bool b) := by rw [h]

theorem nmC_int (c : UInt8) : nmC c = true ↔ (97 ≤ (c.toNat : Int) ∧ (c.toNat : Int) ≤ 122) ∨ (48 ≤ (c.toNat : Int) ∧ (c.toNat : Int) ≤ 57) ∨ (c.toNat : Int) = 95 := by
  simp only [nmC, Bool.or_eq_true, Bool.and_eq_true, decide_eq_true_eq, beq_iff_eq, UInt8.le_iff_toNat_le, ← UInt8.toNat_inj]
  simp only [UInt8.toNat_ofNat]
  omega

theorem take_snoc (s : ByteArray) (k : Nat) (h : k < s.size) : s.data.toList.take (k + 1) = s.data.toList.take k ++ [s[k]] := by
  rw [List.take_succ_eq_append_getElem (by simpa using h)]; rfl

theorem nmB_long (s : ByteArray) (h : (s.size : Int) < 1 ∨ 32 < (s.size : Int)) : nmB s.data.toList = false := by
  have e : s.data.toList.length = s.size := by simp
  rw [Bool.eq_false_iff]
  intro hn
  simp only [nmB, Bool.and_eq_true, decide_eq_true_eq, e] at hn
  omega
theorem nmB_digit (s : ByteArray) (h0 : 0 < s.size) (h1 : 48 ≤ (s[0].toNat : Int)) (h2 : (s[0].toNat : Int) ≤ 57) : nmB s.data.toList = false := by
  rw [Bool.eq_false_iff]
  intro hn
  simp only [nmB, Bool.and_eq_true, Bool.not_eq_true'] at hn
  have hd : s.data.toList.headD 0 = s[0] := by
    rw [List.headD_eq_head?_getD, List.head?_eq_getElem?, List.getElem?_eq_getElem (by simpa using h0)]; rfl
  have := hn.1.2
  rw [hd] at this
  simp only [Bool.and_eq_false_iff, decide_eq_false_iff_not, UInt8.le_iff_toNat_le] at this
  simp only [UInt8.toNat_ofNat] at this
  omega
theorem nmB_bad (s : ByteArray) (k : Nat) (h0 : k < s.size) (h1 : nmC s[k] = false) : nmB s.data.toList = false := by
  rw [Bool.eq_false_iff]
  intro hn
  simp only [nmB, Bool.and_eq_true, List.all_eq_true] at hn
  have := hn.2 s[k] (by show s.data[k] ∈ s.data.toList; simp)
  rw [h1] at this
  cases this
theorem nmB_good (s : ByteArray) (h1 : 1 ≤ (s.size : Int)) (h2 : (s.size : Int) ≤ 32) (h0 : 0 < s.size) (h3 : (s[0].toNat : Int) < 48 ∨ 57 < (s[0].toNat : Int)) (h4 : (s.data.toList.take s.size).all nmC = true) : nmB s.data.toList = true := by
  have e : s.data.toList.length = s.size := by simp
  rw [List.take_of_length_le (by omega)] at h4
  have hd : s.data.toList.headD 0 = s[0] := by
    rw [List.headD_eq_head?_getD, List.head?_eq_getElem?, List.getElem?_eq_getElem (by simpa using h0)]; rfl
  simp only [nmB, h4, hd, e, Bool.and_true, Bool.and_eq_true, decide_eq_true_eq, Bool.not_eq_true', Bool.and_eq_false_iff, decide_eq_false_iff_not, UInt8.le_iff_toNat_le]
  simp only [UInt8.toNat_ofNat]
  omega
theorem nmC_not (c : UInt8) (h : ¬((97 ≤ (c.toNat : Int) ∧ (c.toNat : Int) ≤ 122) ∨ (48 ≤ (c.toNat : Int) ∧ (c.toNat : Int) ≤ 57) ∨ (c.toNat : Int) = 95)) : nmC c = false := by
  rw [Bool.eq_false_iff]; exact fun e => h ((nmC_int c).1 e)

set_option maxHeartbeats 400000 in
theorem name_any (s : ByteArray) (w : World) (hs : s.size ≤ 140737488351232) :
    Calls Tryz.prog 105 #[.string s] w fun e w' => e = .returned (.bool (nmB s.data.toList)) ∧ w = w' := by
  by_cases h1 : (s.size : Int) < 1 ∨ 32 < (s.size : Int)
  · have hn := Lib.hid (nmB_long s h1)
    go_enter Tryz.func105, Tryz.ntmps105
    go_wp2
    all_goals (go_ret; exact ⟨ret_bool hn.out.symm, rfl⟩)
  have h1a : 1 ≤ (s.size : Int) := by omega
  have h1b : (s.size : Int) ≤ 32 := by omega
  have h0 : 0 < s.size := by omega
  clear h1
  by_cases h2 : 48 ≤ (s[0].toNat : Int) ∧ (s[0].toNat : Int) ≤ 57
  · obtain ⟨h2a, h2b⟩ := h2
    have hn := Lib.hid (nmB_digit s h0 h2a h2b)
    go_enter Tryz.func105, Tryz.ntmps105
    go_wp2
    go_ret; exact ⟨ret_bool hn.out.symm, rfl⟩
  have h2' : (s[0].toNat : Int) < 48 ∨ 57 < (s[0].toNat : Int) := by omega
  have H2 := Lib.hid h2'
  clear h2 
  rcases h2' with h2 | h2
  all_goals
    go_enter Tryz.func105, Tryz.ntmps105
    go_wp2
    go_loop [25] (fun i => ∃ k : Nat, k ≤ s.size ∧ i = .int .i64 k ∧ Hid ((s.data.toList.take k).all nmC = true)) (fun i => s.size - (intOf i).toNat)
    case atStart => exact ⟨0, Nat.zero_le _, rfl, rfl⟩
    case round =>
      obtain ⟨k, hk, rfl, hall⟩ := hrel
      by_cases hlt : k < s.size
      · go_wp2
        all_goals first
          | (go_ret
             have hb : nmC s[k] = false := nmC_not _ (by simp only [bne_iff_ne, ne_eq] at *; omega)
             exact ⟨ret_bool (nmB_bad s k hlt hb).symm, rfl⟩)
          | (have hb : nmC s[k] = true := (nmC_int _).2 (by simp only [bne_eq_false_iff_eq] at *; omega)
             refine ⟨⟨k + 1, by omega, by go_num, ?_⟩, by simp [intOf]; omega⟩
             show List.all _ _ = true
             rw [take_snoc s k hlt, List.all_append, hall.out, List.all_cons, hb]
             rfl)
      · obtain rfl : k = s.size := by omega
        have hn := Lib.hid (nmB_good s h1a h1b h0 H2.out hall.out)
        go_wp2
        go_ret; exact ⟨ret_bool hn.out.symm, rfl⟩


/-- What each object has. -/
def biL : List ByteArray := [⟨#[110, 97, 109, 101]⟩, ⟨#[111, 119, 110, 101, 114]⟩, ⟨#[108, 111, 99, 97, 116, 105, 111, 110]⟩, ⟨#[99, 111, 110, 116, 101, 110, 116, 115]⟩, ⟨#[112, 108, 97, 121, 101, 114]⟩, ⟨#[112, 114, 111, 103, 114, 97, 109, 109, 101, 114]⟩, ⟨#[119, 105, 122, 97, 114, 100]⟩, ⟨#[114]⟩, ⟨#[119]⟩, ⟨#[102]⟩]
/-- Is a text one of what each object has? -/
def biB (n : ByteArray) : Bool := containsS biL n
set_option maxHeartbeats 400000 in
theorem oname_c (s : ByteArray) (w : World) (hs : s.size ≤ 140737488351232) :
    Calls Tryz.prog 64 #[.string s] w fun e w' => e = .returned (.bool (nmB s.data.toList)) ∧ w = w' := by
  have C := Lib.hid (name_any s w hs)
  generalize nmB s.data.toList = b at C ⊢
  go_enter Tryz.func64, Tryz.ntmps64
  go_wp2_with fail
  refine C.out.mono ?_
  rintro e w' ⟨rfl, rfl⟩
  go_wp2_with fail
  go_ret
  exact ⟨rfl, rfl⟩
theorem bi_cells (w : World) : ∀ j, j < biL.length → (w.alloc (.cells #[.string ⟨#[110, 97, 109, 101]⟩, .string ⟨#[111, 119, 110, 101, 114]⟩, .string ⟨#[108, 111, 99, 97, 116, 105, 111, 110]⟩, .string ⟨#[99, 111, 110, 116, 101, 110, 116, 115]⟩, .string ⟨#[112, 108, 97, 121, 101, 114]⟩, .string ⟨#[112, 114, 111, 103, 114, 97, 109, 109, 101, 114]⟩, .string ⟨#[119, 105, 122, 97, 114, 100]⟩, .string ⟨#[114]⟩, .string ⟨#[119]⟩, .string ⟨#[102]⟩] 9)).cell? ⟨w.heap.size, 0 + j, none⟩ = some (.string (biL.getD j ByteArray.empty)) := by
  intro j hj
  have hb := heap_alloc_new w (.cells #[.string ⟨#[110, 97, 109, 101]⟩, .string ⟨#[111, 119, 110, 101, 114]⟩, .string ⟨#[108, 111, 99, 97, 116, 105, 111, 110]⟩, .string ⟨#[99, 111, 110, 116, 101, 110, 116, 115]⟩, .string ⟨#[112, 108, 97, 121, 101, 114]⟩, .string ⟨#[112, 114, 111, 103, 114, 97, 109, 109, 101, 114]⟩, .string ⟨#[119, 105, 122, 97, 114, 100]⟩, .string ⟨#[114]⟩, .string ⟨#[119]⟩, .string ⟨#[102]⟩] 9)
  rw [Nat.zero_add, cell_of_row _ _ j _ _ _ hb]
  have hj' : j < 10 := hj
  have : ∀ j : Fin 10, (#[.string ⟨#[110, 97, 109, 101]⟩, .string ⟨#[111, 119, 110, 101, 114]⟩, .string ⟨#[108, 111, 99, 97, 116, 105, 111, 110]⟩, .string ⟨#[99, 111, 110, 116, 101, 110, 116, 115]⟩, .string ⟨#[112, 108, 97, 121, 101, 114]⟩, .string ⟨#[112, 114, 111, 103, 114, 97, 109, 109, 101, 114]⟩, .string ⟨#[119, 105, 122, 97, 114, 100]⟩, .string ⟨#[114]⟩, .string ⟨#[119]⟩, .string ⟨#[102]⟩] : Array Value)[j.val]? = some (.string (biL.getD j.val ByteArray.empty)) := by
    intro j
    match j with
    | ⟨0, _⟩ => rfl
    | ⟨1, _⟩ => rfl
    | ⟨2, _⟩ => rfl
    | ⟨3, _⟩ => rfl
    | ⟨4, _⟩ => rfl
    | ⟨5, _⟩ => rfl
    | ⟨6, _⟩ => rfl
    | ⟨7, _⟩ => rfl
    | ⟨8, _⟩ => rfl
    | ⟨9, _⟩ => rfl
  exact this ⟨j, hj'⟩
set_option maxHeartbeats 1000000 in
theorem obuiltin_c (n : ByteArray) (w : World) : Calls Tryz.prog 100 #[.string n] w fun e w' => e = .returned (.bool (biB n)) ∧ Below w.heap.size w w' := by
  have C := Lib.hid (Tryz.slices_Contains_string w.heap.size 0 10 10 biL n _ (by decide) (by decide) (bi_cells w))
  rw [show biL.take 10 = biL from rfl] at C
  unfold biB
  generalize containsS biL n = b at C ⊢
  go_enter Tryz.func100, Tryz.ntmps100
  go_wp2_with fail
  refine C.out.mono ?_
  rintro e w' ⟨rfl, rfl⟩
  go_wp2_with fail
  go_ret
  exact ⟨rfl, (Below.refl _ _).alloc (Nat.le_refl _) _⟩
theorem pbuiltin_c (n : ByteArray) (w : World) : Calls Tryz.prog 55 #[.string n] w fun e w' => e = .returned (.bool (biB n)) ∧ Below w.heap.size w w' := by
  have C := Lib.hid (obuiltin_c n w)
  generalize biB n = b at C ⊢
  go_enter Tryz.func55, Tryz.ntmps55
  go_wp2_with fail
  refine C.out.mono ?_
  rintro e w' ⟨rfl, hb⟩
  have HB := Lib.hid hb
  clear hb
  go_wp2_with fail
  go_ret
  exact ⟨rfl, HB.out⟩
end Go.Proofs.YtnphgcbknfmapaaGreatDoor
namespace Go.Proofs.YtnphgcbknfmapaaGreatDoor
open Go.RowKit Go.Lib
set_option linter.unusedVariables false

/-- A number as a value. -/
def intV (n : Int) : Value := .agg #[.int .i64 0, .int .i64 n, .string ⟨#[]⟩, .slice none 0 0]
set_option maxHeartbeats 400000 in
theorem printable_0 (w : World) : Calls Tryz.prog 85 #[.string ⟨#[]⟩] w fun e w' => e = .returned (.bool true) ∧ w = w' := by
  go_enter Tryz.func85, Tryz.ntmps85
  go_wp2
  go_loopg [6] 0 (fun kk iv wr => iv = .int .i64 0 ∧ w = wr)
  case atStart => exact ⟨rfl, rfl⟩
  case round =>
    obtain ⟨rfl, rfl⟩ := hrel
    go_wp2_with fail
    go_ret
    exact ⟨rfl, rfl⟩
set_option maxHeartbeats 2000000 in
theorem own_int (n : Int) (w : World) : Calls Tryz.prog 119 #[intV n] w fun e w' => e = .returned .nilIface ∧ Below w.heap.size w w' := by
  unfold intV
  have CP := Lib.hid (fun W => printable_0 W)
  go_enter Tryz.func119, Tryz.ntmps119
  go_wp2_with fail
  refine (CP.out _).mono ?_
  rintro e w1 ⟨rfl, rfl⟩
  go_wp2_with fail
  go_ret
  exact ⟨rfl, (Below.refl _ _).alloc (Nat.le_refl _) _⟩
set_option maxHeartbeats 2000000 in
theorem walk_int (n : Int) (L : Nat) (w : World) (hL : w.heap[L]? = some (.cells #[.int .i64 4096] 3 (0, 0))) :
    Calls Tryz.prog 103 #[intV n, .int .i64 1, .pointer (some ⟨L, 0, none⟩)] w fun e w' => e = .returned .nilIface ∧ Chg (fun b => b = L) w w' := by
  have l0 : w.cell? ⟨L, 0, none⟩ = some (.int .i64 4096) := cell_of_row w L 0 _ _ _ hL
  have lf0 : w.frozen? ⟨L, 0, none⟩ = false := by simp [World.frozen?, hL]
  have hlt : L < w.heap.size := (Array.getElem?_eq_some_iff.1 hL).1
  obtain ⟨w1, hw1⟩ : ∃ w1, w1 = (w.setCell ⟨L, 0, none⟩ (.int .i64 4095)).alloc (.cells #[.int .i64 0, .int .i64 n, .string ⟨#[]⟩, .slice none 0 0] 33) := ⟨_, rfl⟩
  have hz1 : w1.heap.size = w.heap.size + 1 := by rw [hw1]; simp [World.setCell]
  have hg : w1.heap[w.heap.size]? = some (.cells #[.int .i64 0, .int .i64 n, .string ⟨#[]⟩, .slice none 0 0] 33 (0, 0)) := by
    rw [hw1]
    have := heap_alloc_new (w.setCell ⟨L, 0, none⟩ (.int .i64 4095)) (.cells #[.int .i64 0, .int .i64 n, .string ⟨#[]⟩, .slice none 0 0] 33)
    rwa [show (w.setCell ⟨L, 0, none⟩ (.int .i64 4095)).heap.size = w.heap.size from by simp [World.setCell]] at this
  have u3 : w1.cell? ⟨w.heap.size, 3, none⟩ = some (.slice none 0 0) := cell_of_row w1 w.heap.size 3 _ _ _ hg
  have HC := Lib.hid (show Chg (fun b => b = L) w w1 by rw [hw1]; exact (Chg.set (S := fun b => b = L) w (p := ⟨L, 0, none⟩) rfl _).trans (Chg.new _ _))
  have HW1 := Lib.hid hw1
  have HZ1 := Lib.hid hz1
  have CO := Lib.hid (own_int n w1)
  unfold intV at CO ⊢
  rw [hw1] at u3
  clear hg hw1 hz1 hL
  go_enter Tryz.func103, Tryz.ntmps103
  go_wp2_with fail
  rw [← HW1.out]
  refine CO.out.mono ?_
  rintro e w2 ⟨rfl, hb2⟩
  have x3 : w2.cell? ⟨w.heap.size, 3, none⟩ = some (.slice none 0 0) := (hb2.cell (p := ⟨w.heap.size, 3, none⟩) (by rw [HZ1.out]; exact Nat.lt_succ_self _)).trans (by rw [HW1.out]; exact u3)
  have HB2 := Lib.hid hb2
  clear hb2 u3 HW1 CO l0 lf0
  go_wp2_with fail
  go_loopg [42] 0 (fun kk v wr => v = .int .i64 0 ∧ w2 = wr)
  case atStart => exact ⟨rfl, rfl⟩
  case round =>
    obtain ⟨rfl, rfl⟩ := hrel
    go_wp2_with fail
    go_ret
    exact ⟨rfl, HC.out.trans (Chg.of_below HB2.out)⟩
set_option maxHeartbeats 2000000 in
theorem valid_int (n : Int) (w : World) : Calls Tryz.prog 58 #[intV n] w fun e w' => e = .returned .nilIface ∧ Below w.heap.size w w' := by
  obtain ⟨wa, hwa⟩ : ∃ wa, wa = (w.alloc (.cells #[.int .i64 0, .int .i64 n, .string ⟨#[]⟩, .slice none 0 0] 33)).alloc (.cells #[.int .i64 4096] 3) := ⟨_, rfl⟩
  have HB := Lib.hid (show Below w.heap.size w wa by rw [hwa]; exact ((Below.refl _ _).alloc (Nat.le_refl _) _).alloc (by simp) _)
  have hg : wa.heap[w.heap.size + 1]? = some (.cells #[.int .i64 4096] 3 (0, 0)) := by rw [hwa]; exact heap_alloc2_new _ _ _
  have CW := Lib.hid (walk_int n (w.heap.size + 1) wa hg)
  have HW := Lib.hid hwa
  unfold intV at CW ⊢
  clear hg hwa
  go_enter Tryz.func58, Tryz.ntmps58
  go_wp2_with fail
  rw [← HW.out]
  refine CW.out.mono ?_
  rintro e w2 ⟨rfl, hb2⟩
  have HB2 := Lib.hid hb2
  clear hb2 HW CW
  go_wp2_with fail
  go_ret
  exact ⟨rfl, HB.out.trans (HB2.out.below HB.out.size (fun i e => by omega))⟩
set_option maxHeartbeats 2000000 in
theorem clone_int (n : Int) (w : World) : Calls Tryz.prog 59 #[intV n] w fun e w' => e = .returned (intV n) ∧ Below w.heap.size w w' := by
  unfold intV
  go_enter Tryz.func59, Tryz.ntmps59
  go_wp2_with fail
  go_loopg [3, 9] 0 (fun kk lv v wr => lv = .slice none 0 0 ∧ v = .int .i64 0 ∧ wr = (w.alloc (.cells #[.int .i64 0, .int .i64 n, .string ⟨#[]⟩, .slice none 0 0] 33)).alloc (.cells #[.int .i64 0, .int .i64 0, .string ⟨#[]⟩, .slice none 0 0] 33))
  case atStart => exact ⟨rfl, rfl, rfl⟩
  case round =>
    obtain ⟨rfl, rfl, rfl⟩ := hrel
    go_wp2_with fail
    exact bodyPost_ret (results_cell_row (P := Tryz.prog) rfl _ _ (w.heap.size + 1) _ _ _ _ rfl (heap_alloc2_new _ _ _) Tryz.underlying33 rfl (by kernel_rfl)) rfl ⟨rfl, ((Below.refl _ _).alloc (Nat.le_refl _) _).alloc (by simp) _⟩
set_option maxHeartbeats 2000000 in
theorem valI_c (n : Int) (w : World) : Calls Tryz.prog 24 #[.int .i64 n] w fun e w' => e = .returned (intV n) ∧ Below w.heap.size w w' := by
  unfold intV
  go_enter Tryz.func24, Tryz.ntmps24
  go_wp2_with fail
  exact bodyPost_ret (results_cell_row (P := Tryz.prog) rfl _ _ w.heap.size _ _ _ _ rfl (heap_alloc_new _ _) Tryz.underlying33 rfl (by kernel_rfl)) rfl ⟨rfl, (Below.refl _ _).alloc (Nat.le_refl _) _⟩
end Go.Proofs.YtnphgcbknfmapaaGreatDoor
namespace Go.Proofs.YtnphgcbknfmapaaGreatDoor
open Go.RowKit Go.Lib
set_option linter.unusedVariables false

end Go.Proofs.YtnphgcbknfmapaaGreatDoor
namespace Go.Proofs.YtnphgcbknfmapaaGreatDoor
open Go.RowKit Go.Lib
set_option linter.unusedVariables false

/-- An object without its properties. -/
def bareO (x : OB) : OB := { x with defs := [], slots := [] }
theorem getO_bare (l : List OB) (o : Int) : getO (l.map bareO) o = (getO l o).map bareO := by
  unfold getO
  rw [List.find?_map]
  rfl
theorem hasO_bare (l : List OB) (o : Int) : hasO (l.map bareO) o = hasO l o := by
  unfold hasO
  rw [getO_bare]
  cases getO l o <;> rfl
/-- The table's rows come to an end. -/
def OkS (l : List OB) (mx : Int) : Prop := OkT (l.map bareO) mx
theorem OkS.rep {l : List OB} {mx o : Int} {x x' : OB} (h : OkS l mx) (hs : SortO l) (hx : getO l o = some x) (hb : bareO x' = bareO x) : OkS (repO l o x') mx := by
  have : (repO l o x').map bareO = l.map bareO := by
    unfold repO
    rw [List.map_map]
    apply List.map_congr_left
    intro y hy
    simp only [Function.comp]
    by_cases e : y.id = o
    · have b : (y.id == o) = true := by simpa using e
      have h2 := getO_of_mem hs hy
      rw [e, hx] at h2
      injection h2 with h2
      rw [b, if_pos rfl, hb, h2]
    · have b : (y.id == o) = false := by simpa using e
      rw [b]
      rfl
  unfold OkS
  rw [this]
  exact h
/-- Such a property: a number at its time, no text. -/
def FlatS (s : SL) : Prop := 0 ≤ s.bits ∧ s.bits ≤ 7 ∧ s.kind = 0 ∧ s.text = ⟨#[]⟩
theorem FlatS.fresh {s : SL} (h : FlatS s) (ow : Int) : FlatS (freshO s ow) := ⟨h.1, h.2.1, rfl, rfl⟩
/-- A table with properties in memory. -/
structure TS (w : World) (B a m : Nat) (T : List OM) (mx : Int) : Prop where
  tab : Tab w B a m T mx
  ok : OkS (obT T) mx
  flat : ∀ x ∈ T, ∀ s ∈ x.o.slots, FlatS s
  bare : ∀ x ∈ T, (x.o.slots = [] → x.sv = .slice none 0 0) ∧ (x.o.defs = [] → x.dv = .slice none 0 0)
/-- What a change leaves: a table again; all but its own blocks is as it was. -/
structure StS (w w' : World) (B a m : Nat) (T T' : List OM) (mx mx' : Int) : Prop where
  ts : TS w' B a m T' mx'
  chg : Chg (fun b => b ∈ a :: m :: blkT T) w w'
  new : ∀ b ∈ blkT T', b ∈ blkT T ∨ w.heap.size ≤ b
theorem TS.keep {w w' : World} {B a m : Nat} {T : List OM} {mx : Int} (h : TS w B a m T mx) (hb : Below w.heap.size w w') : TS w' B a m T mx := ⟨h.tab.below hb, h.ok, h.flat, h.bare⟩
theorem StS.refl {w : World} {B a m : Nat} {T : List OM} {mx : Int} (h : TS w B a m T mx) : StS w w B a m T T mx mx := ⟨h, .refl _ _, fun b hb => .inl hb⟩
theorem StS.of_below {w w' : World} {B a m : Nat} {T : List OM} {mx : Int} (h : TS w B a m T mx) (hb : Below w.heap.size w w') : StS w w' B a m T T mx mx := ⟨h.keep hb, .of_below hb, fun b hb => .inl hb⟩
theorem StS.trans {w w1 w2 : World} {B a m : Nat} {T T1 T2 : List OM} {mx mx1 mx2 : Int} (h : StS w w1 B a m T T1 mx mx1) (k : StS w1 w2 B a m T1 T2 mx1 mx2) : StS w w2 B a m T T2 mx mx2 := by
  refine ⟨k.ts, h.chg.trans' k.chg ?_, ?_⟩
  · intro i hi hm
    rcases List.mem_cons.1 hm with rfl | hm
    · exact List.mem_cons_self ..
    rcases List.mem_cons.1 hm with rfl | hm
    · exact List.mem_cons_of_mem _ (List.mem_cons_self ..)
    rcases h.new i hm with h1 | h1
    · exact List.mem_cons_of_mem _ (List.mem_cons_of_mem _ h1)
    · omega
  · intro b hb
    rcases k.new b hb with h1 | h1
    · exact h.new b h1
    · exact .inr (Nat.le_trans h.chg.size h1)
theorem StS.behind {w w1 w2 : World} {B a m : Nat} {T T1 : List OM} {mx mx1 : Int} (h : StS w w1 B a m T T1 mx mx1) (hb : Below w1.heap.size w1 w2) : StS w w2 B a m T T1 mx mx1 := h.trans (.of_below h.ts hb)
/-- One object replaced where it lay. -/
theorem TS.rep {w w' : World} {B a m : Nat} {T : List OM} {mx o : Int} (h : TS w B a m T mx) {x : OM} (hx : findT T o = some x) (x' : OM) (hid : bareO x'.o = bareO x.o) (hg : x'.g = x.g)
    (hc : Chg (fun b => b ∈ x.blocks) w w') (hob : ObjAt w' B x') (hbl : ∀ b ∈ x'.blocks, b ∈ x.blocks ∨ w.heap.size ≤ b) (hnd : x'.blocks.Nodup) (hf : ∀ s ∈ x'.o.slots, FlatS s) (hbr : (x'.o.slots = [] → x'.sv = .slice none 0 0) ∧ (x'.o.defs = [] → x'.dv = .slice none 0 0)) : StS w w' B a m T (repT T o x') mx mx := by
  have hi : x'.o.id = x.o.id := by have := congrArg OB.id hid; exact this
  have hxb : ∀ b ∈ x.blocks, b ∈ blkT T := fun b hb => List.mem_flatMap.2 ⟨x, (findT_some hx).1, hb⟩
  refine ⟨⟨h.tab.rep hx x' hi hg hc hob hbl hnd, ?_, ?_, ?_⟩, hc.mono fun i _ hm => List.mem_cons_of_mem _ (List.mem_cons_of_mem _ (hxb i hm)), ?_⟩
  · rw [obT_rep]
    exact h.ok.rep h.tab.sort (x := x.o) (by rw [getO_obT, hx]; rfl) hid
  · intro y hy
    unfold repT at hy
    obtain ⟨z, hz, rfl⟩ := List.mem_map.1 hy
    by_cases e : (z.o.id == o) = true
    · rw [if_pos e]; exact hf
    · rw [if_neg e]; exact h.flat z hz
  · intro y hy
    unfold repT at hy
    obtain ⟨z, hz, rfl⟩ := List.mem_map.1 hy
    by_cases e : (z.o.id == o) = true
    · rw [if_pos e]; exact hbr
    · rw [if_neg e]; exact h.bare z hz
  · intro b hb
    unfold blkT repT at hb
    obtain ⟨y, hy, hb⟩ := List.mem_flatMap.1 hb
    obtain ⟨z, hz, rfl⟩ := List.mem_map.1 hy
    by_cases e : (z.o.id == o) = true
    · rw [if_pos e] at hb
      rcases hbl b hb with h1 | h1
      · exact .inl (hxb b h1)
      · exact .inr h1
    · rw [if_neg e] at hb
      exact .inl (List.mem_flatMap.2 ⟨z, hz, hb⟩)

/-- An object that is new, with properties, where it lies. -/
def newS (mx p ow : Int) (g : Nat) (ss : List SL) (sv : Value) : OM := ⟨newO mx p ow ss, g, .slice none 0 0, sv⟩
end Go.Proofs.YtnphgcbknfmapaaGreatDoor
namespace Go.Proofs.YtnphgcbknfmapaaGreatDoor
open Go.RowKit Go.Lib
set_option linter.unusedVariables false

theorem slot_info : (Tryz.prog.info? 35).map (fun i => (i.zero, i.size, i.bytes)) = some (some (.agg #[.string ⟨#[]⟩, .int .i64 0, .int .i64 0, .bool false, .int .i64 0, .int .i64 0, .string ⟨#[]⟩, .slice none 0 0]), 8, 96) := by kernel_rfl
theorem news8 (w : World) (a b c d e f g h : Value) (T : Nat) : ∀ j u, [a, b, c, d, e, f, g, h][j]? = some u → (w.alloc (.cells #[a, b, c, d, e, f, g, h] T)).cell? ((⟨w.heap.size, 0, none⟩ : Addr).add j) = some u :=
  World.news_of_block (cs := #[a, b, c, d, e, f, g, h]) (heap_alloc_new w _)
theorem one8 (s t : ByteArray) (a b c d : Int) (e : Bool) : ∀ u ∈ [Value.string s, .int .i64 a, .int .i64 b, .bool e, .int .i64 c, .int .i64 d, .string t, .slice none 0 0], u.oneCell' = true := by
  intro u hu; simp at hu; rcases hu with rfl | rfl | rfl | rfl | rfl | rfl | rfl | rfl <;> rfl
/-- How far the properties of an object that is new are laid. -/
structure CrL (w2 wr : World) (g0 : Nat) (mx p ow : Int) (l : List SL) (V : Value) : Prop where
  blk : wr.heap[g0]? = some (.cells (newS mx p ow g0 l V).cells 29 (0, 0))
  own : wr.ownsRow (g0 + 1) 35 8 V l.length (l.flatMap SL.cells)
  chg : Chg (fun b => b = g0) w2 wr
  nil : l = [] → V = .slice none 0 0
theorem CrL.next {w2 wr wb w9 : World} {g0 g cap n : Nat} {mx p ow : Int} {l : List SL} {V : Value} {f : SL} (h : CrL w2 wr g0 mx p ow l V) (hz : w2.heap.size = g0 + 1) (hb : Below wr.heap.size wr wb) (hn : n = l.length)
    (hown : w9.ownsRow (g0 + 1) 35 8 (.slice (some ⟨g, 0, none⟩) (n + 1) cap) (n + 1) (l.flatMap SL.cells ++ f.cells)) (hg : wb.grownBy w9 V.ownBlock) :
    CrL w2 (w9.setCell ⟨g0, 8, none⟩ (.slice (some ⟨g, 0, none⟩) (n + 1) cap)) g0 mx p ow (l ++ [f]) (.slice (some ⟨g, 0, none⟩) (n + 1) cap) := by
  have hzr := h.chg.size
  have hzb := hb.size
  have hV : ∀ b, V.ownBlock = some b → g0 + 1 ≤ b := fun b hb => (h.own.lt b hb).1
  have h9 : w9.heap[g0]? = wr.heap[g0]? := (hg.block g0 (by omega) (fun e => by have := hV g0 e.symm; omega)).trans (hb.block g0 (by omega))
  subst hn
  refine ⟨?_, ?_, ?_, fun e => by simp at e⟩
  · rw [heap_setCell_same w9 g0 8 _ _ _ (h9.trans h.blk)]
    rfl
  · rw [List.flatMap_append, List.length_append]
    have := ownsRow_same (w' := w9.setCell ⟨g0, 8, none⟩ (.slice (some ⟨g, 0, none⟩) (l.length + 1) cap)) hown (fun b hb => Below.heap_setCell _ _ _ _ (by
      have := (hown.lt b hb).1
      show b ≠ g0
      omega))
    simpa using this
  · refine h.chg.trans' (Chg.trans' (S := fun b => b = g0 ∨ V.ownBlock = some b) (S' := fun b => b = g0) ((Chg.of_below hb).trans' (b := wb) (S' := fun b => V.ownBlock = some b) ⟨hg.os, hg.tape, hg.output, hg.size, fun k hk hn => hg.block k hk (fun e => hn e.symm)⟩ fun i _ e => .inr e) (Chg.set (S := fun b => b = g0) w9 (p := ⟨g0, 8, none⟩) rfl _) fun i _ e => .inl e) ?_
    intro i hi e
    rcases e with e | e
    · exact e
    · have := hV i e
      omega
end Go.Proofs.YtnphgcbknfmapaaGreatDoor
namespace Go.Proofs.YtnphgcbknfmapaaGreatDoor
open Go.RowKit Go.Lib
set_option linter.unusedVariables false

end Go.Proofs.YtnphgcbknfmapaaGreatDoor
namespace Go.Proofs.YtnphgcbknfmapaaGreatDoor
open Go.RowKit Go.Lib
set_option linter.unusedVariables false

set_option maxHeartbeats 1000000 in
theorem pbelow_c {w : World} {B a m : Nat} {T : List OM} {mx o : Int} (h : Tab w B a m T mx) (ho : I64 o) {r : List Int} (hr : belowO (obT T) o = some r) (hri : ∀ x ∈ r, I64 x) (hrl : r.length ≤ 1000000) :
    Calls Tryz.prog 65 #[.pointer (some ⟨a, 0, none⟩), .int .i64 o] w fun e w' => ∃ v, e = .returned v ∧ w'.ownsRow w.heap.size 3 1 v r.length (intsO r) ∧ Below w.heap.size w w' := by
  have C := Lib.hid (below_c h ho hr hri hrl)
  clear h hr
  go_enter Tryz.func65, Tryz.ntmps65
  go_wp2_with fail
  refine C.out.mono ?_
  rintro e w' ⟨v, rfl, hrow, hb⟩
  have HR := Lib.hid hrow
  have HB := Lib.hid hb
  clear hrow hb
  go_wp2_with fail
  go_ret
  exact ⟨v, rfl, HR.out, HB.out⟩
end Go.Proofs.YtnphgcbknfmapaaGreatDoor
namespace Go.Proofs.YtnphgcbknfmapaaGreatDoor
open Go.RowKit Go.Lib
set_option linter.unusedVariables false

/-- The argument of Add: a property whose value is a number. -/
def addV (n : ByteArray) (ow bits v : Int) : Value := .agg #[.string n, .int .i64 ow, .int .i64 bits, .bool false, .int .i64 0, .int .i64 v, .string ⟨#[]⟩, .slice none 0 0]
section
variable {w : World} {B a m : Nat} {T : List OM} {mx o : Int} {x : OM}
end
end Go.Proofs.YtnphgcbknfmapaaGreatDoor
namespace Go.Proofs.YtnphgcbknfmapaaGreatDoor
open Go.RowKit Go.Lib
set_option linter.unusedVariables false

theorem squ_add {P : Program} {f : FuncId} {args : Array Value} {w : World} {a n : Nat} {v : Value}
    (h : Calls P f args (w.drewN (a + n)) fun e w' => e = .returned v ∧ w.drewN (a + n) = w') :
    Calls P f args (w.drewN (a + n)) fun e w'' => e = .returned v ∧ ∃ m, w'' = w.drewN (a + m) :=
  h.mono fun _ _ ⟨he, hm⟩ => ⟨he, n, hm.symm⟩
theorem squ_left {P : Program} {f : FuncId} {args : Array Value} {w : World} {n : Nat} {v : Value}
    (h : Calls P f args (w.drewN n) fun e w' => e = .returned v ∧ w.drewN n = w') : Calls P f args (w.drewN n) fun e w'' => e = .returned v ∧ ∃ m, w'' = w.drewN m :=
  h.mono fun _ _ ⟨he, hm⟩ => ⟨he, n, hm.symm⟩
theorem Tab.drewN {w : World} {B a m : Nat} {T : List OM} {mx : Int} (h : Tab w B a m T mx) (k : Nat) : Tab (w.drewN k) B a m T mx := h.keep fun b _ => World.heap_drewN w k ▸ rfl
theorem sbelow_drewN {B : Nat} {w w' : World} (h : Below B w w') (n : Nat) : Below B w (w'.drewN n) := ⟨h.os, h.tape, h.output, h.size, h.block⟩
section
variable {w : World} {B a m : Nat} {T : List OM} {mx o : Int} {x : OM}
end
end Go.Proofs.YtnphgcbknfmapaaGreatDoor
namespace Go.Proofs.YtnphgcbknfmapaaGreatDoor
open Go.RowKit Go.Lib
set_option linter.unusedVariables false

theorem ownsRow_baseN {w : World} {b b' : Nat} {e : TypeId} {size : Nat} {v : Value} {n : Nat} {xs : List Value} (h : w.ownsRow b e size v n xs) (hb : b' ≤ b) : w.ownsRow b' e size v n xs := by
  refine ⟨h.1, ?_⟩
  rcases h.2 with h1 | ⟨g, cap, cur, e1, e2, e3⟩
  · exact .inl h1
  · exact .inr ⟨g, cap, cur, e1, by omega, e3⟩
theorem Tab.nodupN {w : World} {B a m : Nat} {T : List OM} {mx : Int} (h : Tab w B a m T mx) {x : OM} (hx : x ∈ T) : x.blocks.Nodup := by
  have hs := (List.nodup_cons.1 (List.nodup_cons.1 h.sep).2).2
  obtain ⟨p, q, e⟩ := List.append_of_mem hx
  rw [e, blkT_split, List.nodup_append, List.nodup_append] at hs
  exact hs.2.1.1
/-- An object's first property, laid. -/
theorem add_slot {w wb w9 w6 : World} {B a m : Nat} {T : List OM} {mx o : Int} {x : OM} {f : SL} {g9 cap : Nat} (h : TS w B a m T mx) (hx : findT T o = some x) (hbb : Below w.heap.size w wb) (hsv : x.sv = .slice none 0 0)
    (hg : wb.grownBy w9 none) (hown : w9.ownsRow w.heap.size 35 8 (.slice (some ⟨g9, 0, none⟩) 1 cap) 1 f.cells) (hb6 : Below w9.heap.size (w9.setCell ⟨x.g, 8, none⟩ (.slice (some ⟨g9, 0, none⟩) 1 cap)) w6) (hf : FlatS f) :
    StS w w6 B a m T (repT T o ⟨{ x.o with slots := [f] }, x.g, x.dv, .slice (some ⟨g9, 0, none⟩) 1 cap⟩) mx mx := by
  have hxm := (findT_some hx).1
  have hob := h.tab.objs x hxm
  have hg9 := hown.lt g9 rfl
  have hxlt := hob.lt
  have hxg : x.g < w.heap.size := hxlt x.g (OM.mem_blocks.2 (.inl rfl))
  have hzb := hbb.size
  have hz9 := hg.size
  have hBw : B ≤ w.heap.size := by
    have h1 := h.tab.base a (List.mem_cons_self ..)
    have h2 := h.tab.lt a (List.mem_cons_self ..)
    omega
  have k9 : ∀ b, b < w.heap.size → w9.heap[b]? = w.heap[b]? := fun b hb => (hg.block b (by omega) (by simp)).trans (hbb.block b hb)
  have k6 : ∀ b, b < w9.heap.size → b ≠ x.g → w6.heap[b]? = w9.heap[b]? := fun b hb hn => (hb6.block b hb).trans (Below.heap_setCell _ _ _ _ hn)
  have hx9 : x.g < w9.heap.size := by omega
  have hne9 : g9 ≠ x.g := by omega
  have hb6x : w6.heap[x.g]? = _ := hb6.block x.g hx9
  refine h.rep hx _ rfl rfl ?_ ⟨?_, ?_, ?_⟩ ?_ ?_ (by intro s hs; rw [List.mem_singleton] at hs; rw [hs]; exact hf) ⟨fun e => absurd e (by simp), (h.bare x hxm).2⟩
  · refine ⟨?_, ?_, ?_, ?_, ?_⟩
    · exact (hb6.os.trans hg.os).trans hbb.os
    · exact (hb6.tape.trans hg.tape).trans hbb.tape
    · exact (hb6.output.trans hg.output).trans hbb.output
    · have := hb6.size; simp [World.setCell] at this; omega
    · intro k hk hn
      rw [k6 k (by omega) (fun e => hn (OM.mem_blocks.2 (.inl e)))]
      exact k9 k hk
  · show w6.heap[x.g]? = _
    rw [hb6x, heap_setCell_same w9 x.g 8 _ _ _ ((k9 x.g hxg).trans hob.blk)]
    rfl
  · refine ownsRow_same hob.defs fun b hb => ?_
    have hbx := hxlt b (OM.mem_blocks.2 (.inr (.inl hb)))
    have hne : b ≠ x.g := by
      rintro rfl
      have := h.tab.nodupN hxm
      unfold OM.blocks at this
      rw [List.nodup_cons] at this
      exact this.1 (by simp [hb])
    rw [k6 b (by omega) hne]
    exact k9 b hbx
  · have : [f].flatMap SL.cells = f.cells := by simp
    show w6.ownsRow B _ 8 _ 1 ([f].flatMap SL.cells)
    rw [this]
    exact ownsRow_baseN (ownsRow_same hown fun b hb => by
      injection hb with hb
      subst hb
      exact k6 _ hg9.2 hne9) hBw
  · intro b hb
    rcases OM.mem_blocks.1 hb with h1 | h1 | h1
    · exact .inl (OM.mem_blocks.2 (.inl h1))
    · exact .inl (OM.mem_blocks.2 (.inr (.inl h1)))
    · injection h1 with h1
      rw [← h1]
      exact .inr hg9.1
  · have h0 := h.tab.nodupN hxm
    unfold OM.blocks at h0 ⊢
    rw [hsv, show (Value.slice none 0 0).ownBlock = none from rfl, Option.toList_none, List.append_nil] at h0
    rw [show (Value.slice (some ⟨g9, 0, none⟩) 1 cap).ownBlock = some g9 from rfl, Option.toList_some]
    rw [List.nodup_cons] at h0
    rw [List.nodup_cons, List.nodup_append]
    refine ⟨?_, h0.2, by simp, ?_⟩
    · intro e
      rcases List.mem_append.1 e with e | e
      · exact h0.1 e
      · rw [List.mem_singleton] at e
        exact hne9 e.symm
    · intro b hb c hc e
      rw [List.mem_singleton] at hc
      have := hxlt b (OM.mem_blocks.2 (.inr (.inl (by simpa using hb))))
      omega
theorem sbelow_setRow {B g : Nat} {w w' : World} (h : Below B w w') (hg : B ≤ g) (cs : Array Value) : Below B w (w'.setRow g cs) :=
  ⟨h.os, h.tape, h.output, by simpa [World.setRow] using h.size, fun k hk => (setRow_other w' g k cs (by omega)).trans (h.block k hk)⟩
end Go.Proofs.YtnphgcbknfmapaaGreatDoor
namespace Go.Proofs.YtnphgcbknfmapaaGreatDoor
open Go.RowKit Go.Lib
set_option linter.unusedVariables false

def layO (l : List OB) (d : Int) (f : SL) : List OB := updO l d fun y => { y with slots := [f] }
def layAll (l : List OB) (ps : List (Int × SL)) : List OB := ps.foldl (fun l p => layO l p.1 p.2) l
theorem layAll_snoc (l : List OB) (ps : List (Int × SL)) (d : Int) (f : SL) : layAll l (ps ++ [(d, f)]) = layO (layAll l ps) d f := by
  unfold layAll
  rw [List.foldl_append]
  rfl
theorem rep_lay {l : List OB} (hs : SortO l) {d : Int} {x : OB} (hx : getO l d = some x) (f : SL) : repO l d { x with slots := [f] } = layO l d f := by
  unfold repO layO updO
  apply List.map_congr_left
  intro y hy
  by_cases e : y.id = d
  · have b : (y.id == d) = true := by simpa using e
    have h2 := getO_of_mem hs hy
    rw [e, hx] at h2
    injection h2 with h2
    rw [b, if_pos rfl, if_pos rfl, h2]
  · have b : (y.id == d) = false := by simpa using e
    rw [b]
    rfl
theorem findT_rep_ne {T : List OM} {d k : Int} {x' : OM} (hid : x'.o.id = d) (h : k ≠ d) : findT (repT T d x') k = findT T k := by
  unfold findT repT
  induction T with
  | nil => rfl
  | cons y r ih =>
    rw [List.map_cons, List.find?_cons, List.find?_cons, ih]
    by_cases e : y.o.id = d
    · have b1 : (y.o.id == d) = true := by simpa using e
      have b2 : (x'.o.id == k) = false := by simp; omega
      have b3 : (y.o.id == k) = false := by simp; omega
      simp only [b1, if_true, b2, b3]
    · have b1 : (y.o.id == d) = false := by simpa using e
      simp only [b1, if_false, Bool.false_eq_true]
theorem findT_rep_eq {T : List OM} {d : Int} {x x' : OM} (hid : x'.o.id = d) (h : findT T d = some x) : findT (repT T d x') d = some x' := by
  unfold findT at h ⊢
  unfold repT
  induction T with
  | nil => cases h
  | cons y r ih =>
    rw [List.find?_cons] at h
    rw [List.map_cons, List.find?_cons]
    by_cases e : y.o.id = d
    · have b1 : (y.o.id == d) = true := by simpa using e
      have b2 : (x'.o.id == d) = true := by simpa using hid
      simp only [b1, if_true, b2]
    · have b1 : (y.o.id == d) = false := by simpa using e
      rw [b1] at h
      simp only [b1, if_false, Bool.false_eq_true]
      exact ih h
/-- How far the properties are laid. -/
structure LyI (w6 wr : World) (B a m : Nat) (T1 Tk : List OM) (mx : Int) (r : List Int) (fs : List SL) (i : Nat) : Prop where
  st : StS w6 wr B a m T1 Tk mx mx
  ob : obT Tk = layAll (obT T1) ((r.zip fs).take i)
  keep : ∀ j, i ≤ j → ∀ d, r[j]? = some d → findT Tk d = findT T1 d
  laid : ∀ k, k < i → ∀ d f, r[k]? = some d → fs[k]? = some f → ∃ y, findT Tk d = some y ∧ y.o.slots = [f]
theorem LyI.next {w6 wr wb w9 : World} {B a m : Nat} {T1 Tk : List OM} {mx : Int} {r : List Int} {fs : List SL} {i g9 cap : Nat} (h : LyI w6 wr B a m T1 Tk mx r fs i) (hn : r.Nodup) {d : Int} (hd : r[i]? = some d) {f : SL} (hf : fs[i]? = some f) {y : OM} (hy : findT Tk d = some y)
    (hsv : y.sv = .slice none 0 0) (hfl : FlatS f) (hbb : Below wr.heap.size wr wb) (hg : wb.grownBy w9 none) (hown : w9.ownsRow wr.heap.size 35 8 (.slice (some ⟨g9, 0, none⟩) 1 cap) 1 f.cells) :
    ∃ Tk', LyI w6 (w9.setCell ⟨y.g, 8, none⟩ (.slice (some ⟨g9, 0, none⟩) 1 cap)) B a m T1 Tk' mx r fs (i + 1) := by
  have hst := add_slot h.st.ts hy hbb hsv hg hown (by rw [show w9.heap.size = (w9.setCell ⟨y.g, 8, none⟩ (.slice (some ⟨g9, 0, none⟩) 1 cap)).heap.size from by simp [World.setCell]]; exact Below.refl _ _) hfl
  have hyo := (findT_some hy).2
  have hz : (r.zip fs)[i]? = some (d, f) := by rw [List.getElem?_zip_eq_some]; exact ⟨hd, hf⟩
  have hne : ∀ k e, k ≠ i → r[k]? = some e → e ≠ d := by
    rintro k e hk he rfl
    have h1 := List.getElem?_eq_some_iff.1 he
    have h2 := List.getElem?_eq_some_iff.1 hd
    exact hk ((List.getElem_inj (h₀ := h1.1) (h₁ := h2.1) hn).1 (h1.2.trans h2.2.symm))
  refine ⟨_, h.st.trans hst, ?_, ?_, ?_⟩
  · rw [obT_rep, rep_lay h.st.ts.tab.sort (by rw [getO_obT, hy]; rfl), List.take_add_one, hz, Option.toList_some, layAll_snoc, h.ob]
  · intro j hj e he
    refine (findT_rep_ne ?_ (hne j e (by omega) he)).trans (h.keep j (by omega) e he)
    exact hyo
  · intro k hk e f' he hf'
    by_cases hki : k = i
    · subst hki
      rw [hd] at he
      rw [hf] at hf'
      injection he with he
      injection hf' with hf'
      subst he
      subst hf'
      exact ⟨_, findT_rep_eq hyo hy, rfl⟩
    · obtain ⟨y', h1, h2⟩ := h.laid k (by omega) e f' he hf'
      refine ⟨y', (findT_rep_ne ?_ (hne k e hki he)).trans h1, h2⟩
      exact hyo
end Go.Proofs.YtnphgcbknfmapaaGreatDoor
namespace Go.Proofs.YtnphgcbknfmapaaGreatDoor
open Go.RowKit Go.Lib
set_option linter.unusedVariables false
set_option linter.unusedSimpArgs false

open Go.Sort in
theorem sholds_own {w : World} {base g n cap : Nat} {ss : List (List UInt8)} (h : w.ownsRow base 9 1 (.slice (some ⟨g, 0, none⟩) n cap) n (ss.map fun l => Value.string ⟨l.toArray⟩)) : Holds encStr w g 0 ss.toArray := by
  intro j hj
  have hj' : j < ss.length := by simpa using hj
  have hc := h.cells (g := g) rfl j (.string ⟨(ss[j]).toArray⟩) (by simp [hj'])
  have hadd : (⟨g, 0, none⟩ : Addr).add j = ⟨g, j, none⟩ := by unfold Addr.add; split <;> simp_all
  rw [hadd] at hc
  refine ⟨by rw [Nat.zero_add, hc]; simp [hj', encStr], ?_⟩
  rcases h.2 with ⟨e, _⟩ | ⟨g', cap', cur, e, _, hh, _⟩
  · cases e
  · injection e with e _ _; injection e with e; injection e with e _ _; subst e
    unfold World.frozen?; rw [hh]; simp
open Go.Sort in
theorem sort_rises {w : World} {base g cap : Nat} {ss : List (List UInt8)} (h : w.ownsRow base 9 1 (.slice (some ⟨g, 0, none⟩) ss.length cap) ss.length (ss.map fun l => Value.string ⟨l.toArray⟩)) (hsz : ss.length < 4611686018427387904) (hs : ss.mergeSort (fun x y => decide (x ≤ y)) = ss) :
    Calls Tryz.prog 66 #[.slice (some ⟨g, 0, none⟩) ss.length cap] w fun e w' => e = .returned (.tuple #[]) ∧ Below w.heap.size w w' := by
  have hH := sholds_own h
  refine (Tryz.slices_Sort_string g 0 cap ss w hH (h.lt g rfl).2 hsz).mono ?_
  rintro e w' ⟨rfl, n, os, he⟩
  rw [hs, putRow_self encStr (Sort.ahead w n) g 0 ss.toArray (holds_ahead _ _ _ _ _ _ hH)] at he
  refine ⟨rfl, ?_⟩
  rw [he]
  refine ⟨rfl, rfl, rfl, ?_, fun k hk => ?_⟩
  · unfold grow Sort.ahead; simp
  · unfold grow Sort.ahead; exact Array.getElem?_append_left hk
theorem ownsRow_base {w : World} {b b' : Nat} {e : TypeId} {size : Nat} {v : Value} {n : Nat} {xs : List Value} (h : w.ownsRow b e size v n xs) (hb : b' ≤ b) : w.ownsRow b' e size v n xs := by
  refine ⟨h.1, ?_⟩
  rcases h.2 with h1 | ⟨g, cap, cur, e1, e2, e3⟩
  · exact .inl h1
  · exact .inr ⟨g, cap, cur, e1, by omega, e3⟩
theorem Tab.nodupX {w : World} {B a m : Nat} {T : List OM} {mx : Int} (h : Tab w B a m T mx) {x : OM} (hx : x ∈ T) : x.blocks.Nodup := by
  have hs := (List.nodup_cons.1 (List.nodup_cons.1 h.sep).2).2
  obtain ⟨p, q, e⟩ := List.append_of_mem hx
  rw [e, blkT_split, List.nodup_append, List.nodup_append] at hs
  exact hs.2.1.1
theorem Tab.baseB {w : World} {B a m : Nat} {T : List OM} {mx : Int} (h : Tab w B a m T mx) : B ≤ w.heap.size := by
  have h1 := h.base a (List.mem_cons_self ..)
  have h2 := h.lt a (List.mem_cons_self ..)
  omega
theorem pstr_info : (Tryz.prog.info? 9).map (fun i => (i.zero, i.size, i.bytes)) = some (some (.string ⟨#[]⟩), 1, 16) := by kernel_rfl
/-- An object's first property of its own. -/
theorem add_defs {w w4 wb w9 w6 : World} {B a m : Nat} {T : List OM} {mx o : Int} {x : OM} {n : ByteArray} {g9 cap : Nat} (h : TS w B a m T mx) (hx : findT T o = some x) (hb4 : Below w.heap.size w w4) (hbb : Below w4.heap.size w4 wb) (hdv : x.dv = .slice none 0 0)
    (hg : wb.grownBy w9 none) (hown : w9.ownsRow w.heap.size 9 1 (.slice (some ⟨g9, 0, none⟩) 1 cap) 1 [.string n]) (hb6 : Below w9.heap.size (w9.setCell ⟨x.g, 7, none⟩ (.slice (some ⟨g9, 0, none⟩) 1 cap)) w6) :
    StS w w6 B a m T (repT T o ⟨{ x.o with defs := [n] }, x.g, .slice (some ⟨g9, 0, none⟩) 1 cap, x.sv⟩) mx mx := by
  have hxm := (findT_some hx).1
  have hob := h.tab.objs x hxm
  have hg9 := hown.lt g9 rfl
  have hxlt := hob.lt
  have hxg : x.g < w.heap.size := hxlt x.g (OM.mem_blocks.2 (.inl rfl))
  have hz4 := hb4.size
  have hzb := hbb.size
  have hz9 := hg.size
  have k9 : ∀ b, b < w.heap.size → w9.heap[b]? = w.heap[b]? := fun b hb => ((hg.block b (by omega) (by simp)).trans (hbb.block b (by omega))).trans (hb4.block b hb)
  have k6 : ∀ b, b < w9.heap.size → b ≠ x.g → w6.heap[b]? = w9.heap[b]? := fun b hb hn => (hb6.block b hb).trans (Below.heap_setCell _ _ _ _ hn)
  have hx9 : x.g < w9.heap.size := by omega
  have hne9 : g9 ≠ x.g := by omega
  have hb6x : w6.heap[x.g]? = _ := hb6.block x.g hx9
  refine h.rep hx _ rfl rfl ?_ ⟨?_, ?_, ?_⟩ ?_ ?_ (h.flat x hxm) ⟨(h.bare x hxm).1, fun e => by cases e⟩
  · refine ⟨?_, ?_, ?_, ?_, ?_⟩
    · exact (hb6.os.trans hg.os).trans (hbb.os.trans hb4.os)
    · exact (hb6.tape.trans hg.tape).trans (hbb.tape.trans hb4.tape)
    · exact (hb6.output.trans hg.output).trans (hbb.output.trans hb4.output)
    · have := hb6.size; simp [World.setCell] at this; omega
    · intro k hk hn
      rw [k6 k (by omega) (fun e => hn (OM.mem_blocks.2 (.inl e)))]
      exact k9 k hk
  · show w6.heap[x.g]? = _
    rw [hb6x, heap_setCell_same w9 x.g 7 _ _ _ ((k9 x.g hxg).trans hob.blk)]
    rfl
  · exact ownsRow_base (ownsRow_same hown fun b hb => by
      injection hb with hb
      subst hb
      exact k6 _ hg9.2 hne9) h.tab.baseB
  · refine ownsRow_same hob.slots fun b hb => ?_
    have hbx := hxlt b (OM.mem_blocks.2 (.inr (.inr hb)))
    have hne : b ≠ x.g := by
      rintro rfl
      have := h.tab.nodupX hxm
      unfold OM.blocks at this
      rw [List.nodup_cons] at this
      exact this.1 (by simp [hb])
    rw [k6 b (by omega) hne]
    exact k9 b hbx
  · intro b hb
    rcases OM.mem_blocks.1 hb with h1 | h1 | h1
    · exact .inl (OM.mem_blocks.2 (.inl h1))
    · injection h1 with h1
      rw [← h1]
      exact .inr hg9.1
    · exact .inl (OM.mem_blocks.2 (.inr (.inr h1)))
  · have h0 := h.tab.nodupX hxm
    unfold OM.blocks at h0 ⊢
    rw [hdv, show (Value.slice none 0 0).ownBlock = none from rfl, Option.toList_none, List.nil_append] at h0
    rw [show (Value.slice (some ⟨g9, 0, none⟩) 1 cap).ownBlock = some g9 from rfl, Option.toList_some, List.singleton_append]
    rw [List.nodup_cons] at h0
    rw [List.nodup_cons, List.nodup_cons]
    refine ⟨?_, ?_, h0.2⟩
    · intro e
      rcases List.mem_cons.1 e with e | e
      · exact hne9 e.symm
      · exact h0.1 e
    · intro e
      have := hxlt g9 (OM.mem_blocks.2 (.inr (.inr (by simpa using e))))
      omega
theorem defs_row {w w4 wb w9 : World} {x : OM} {B g9 cap : Nat} (hob : ObjAt w B x) (hb4 : Below w.heap.size w w4) (hbb : Below w4.heap.size w4 wb) (hg : wb.grownBy w9 none) :
    (w9.setCell ⟨x.g, 7, none⟩ (.slice (some ⟨g9, 0, none⟩) 1 cap)).heap[x.g]? = some (.cells (x.cells.setIfInBounds 7 (.slice (some ⟨g9, 0, none⟩) 1 cap)) 29 (0, 0)) := by
  have hxg : x.g < w.heap.size := hob.lt x.g (OM.mem_blocks.2 (.inl rfl))
  have hz4 := hb4.size
  have hzb := hbb.size
  exact heap_setCell_same w9 x.g 7 _ _ _ ((((hg.block x.g (by omega) (by simp)).trans (hbb.block x.g (by omega))).trans (hb4.block x.g hxg)).trans hob.blk)
/-- The names of an object's own properties, laid. -/
def DfR (w w4 : World) (x : OM) (n : ByteArray) (wx : World) : Prop :=
  ∃ g9 cap wb w9, Below w4.heap.size w4 wb ∧ wb.grownBy w9 none ∧ w9.ownsRow w4.heap.size 9 1 (.slice (some ⟨g9, 0, none⟩) 1 cap) 1 [.string n] ∧ wx = w9.setCell ⟨x.g, 7, none⟩ (.slice (some ⟨g9, 0, none⟩) 1 cap)
section
variable {w : World} {B a m : Nat} {T : List OM} {mx o : Int} {x : OM}
end
end Go.Proofs.YtnphgcbknfmapaaGreatDoor
namespace Go.Proofs.YtnphgcbknfmapaaGreatDoor
open Go.RowKit Go.Lib
set_option linter.unusedVariables false

theorem results_rowP {P : Program} {fn : Func} {p u : Tmp} {ty : TypeId} (h : fn.results = #[.cell p ty, .tmp u]) (tmps : Array Value) (w : World) (g : Nat) (t : TypeId) (cs : Array Value) (fr : Nat × Nat) (d : TypeDesc)
    (hp : tmps.getD p undef = .pointer (some ⟨g, 0, none⟩)) (hg : w.heap[g]? = some (.cells cs t fr))
    (hu : P.underlying ty = some d) (hd : (match d with | .struct _ | .array _ _ => true | _ => false) = true) (hi : (P.info? ty).map (·.size) = some cs.size) :
    (results fn tmps).run P w = .ok (.tuple #[.agg cs, tmps.getD u undef]) w := by
  rw [results_cell_tmp h, hp]
  simp [asAddr, run_loadVar_row w g t ty cs fr d hg hu hd hi, Result.andThen]
/-- The slot of a name. -/
def slO (y : OB) (n : ByteArray) : Option SL := (slotI y.slots n).bind fun i => y.slots[i]?
/-- The slot that tells a property's value, up a row of objects; none: there is none. -/
def gvO (l : List OB) (n : ByteArray) : List Int → Option SL
  | [] => none
  | d :: r => match (getO l d).bind fun y => slO y n with
    | none => none
    | some s => if s.clear then gvO l n r else some s
/-- What Get answers. -/
def gvV : Option SL → Value
  | some s => .tuple #[.agg #[.int .i64 0, .int .i64 s.num, .string ⟨#[]⟩, .slice none 0 0], .int .i64 0]
  | none => .tuple #[.agg #[.int .i64 0, .int .i64 0, .string ⟨#[]⟩, .slice none 0 0], .int .i64 4]
theorem abv_has (l : List OB) : ∀ (n : Nat) (o d : Int), d ∈ abvO l n o → ∃ x, getO l d = some x
  | 0, o, d, h => by simp [abvO] at h
  | n + 1, o, d, h => by
    rw [abvO] at h
    cases hg : getO l o with
    | none => rw [hg] at h; cases h
    | some x =>
      rw [hg] at h
      rcases List.mem_cons.1 h with rfl | h
      · exact ⟨x, by rw [getO_id hg]; exact hg⟩
      · exact abv_has l n x.parent d h
theorem findT_of_getO {T : List OM} {d : Int} {x : OB} (h : getO (obT T) d = some x) : ∃ y, findT T d = some y ∧ y.o = x := by
  rw [getO_obT] at h
  cases hf : findT T d with
  | none => rw [hf] at h; cases h
  | some y => rw [hf] at h; injection h with h; exact ⟨y, rfl, h⟩
theorem slotI_at {ss : List SL} {n : ByteArray} {i : Nat} (h : slotI ss n = some i) : ∃ s, ss[i]? = some s := by
  obtain ⟨⟨s, hs, _⟩, _⟩ := slotI_some h
  exact ⟨s, hs⟩
set_option maxRecDepth 100000 in
set_option maxHeartbeats 4000000 in
theorem get_l {w : World} {B a m : Nat} {T : List OM} {mx o : Int} (h : TS w B a m T mx) (ho : I64 o) {x : OM} (hx : findT T o = some x) (hpi : ParI T) (n : ByteArray) (hi : biB n = false) {q : Option SL} (hq : gvO (obT T) n (aboveO (obT T) o) = q) :
    Calls Tryz.prog 21 #[.pointer (some ⟨a, 0, none⟩), .int .i64 o, .string n] w fun e w' => e = .returned (gvV q) ∧ Below w.heap.size w w' := by
  have HB0 := Lib.hid ((Below.refl w.heap.size w).alloc (Nat.le_refl _) (.cells #[.int .i64 0, .int .i64 0, .string ⟨#[]⟩, .slice none 0 0] 33))
  have CR := Lib.hid (ref_c (h.tab.below HB0.out) ho)
  rw [ptrT_some hx] at CR
  have CB := Lib.hid (fun W => pbuiltin_c n W)
  rw [hi] at CB
  have CA := Lib.hid (fun W (hW : Below w.heap.size w W) => above_c (h.tab.below hW) ho hpi)
  obtain ⟨r, hr⟩ : ∃ r, r = aboveO (obT T) o := ⟨_, rfl⟩
  have hrm : ∀ d ∈ r, ∃ x, getO (obT T) d = some x := fun d hd => abv_has _ _ _ _ (by rw [hr] at hd; exact hd)
  have hrl : r.length ≤ 1000000 := by
    have h1 := abv_len (obT T) ((obT T).length + 1) o
    have h2 : (obT T).length = T.length := by simp [obT]
    have h3 := h.tab.few
    rw [hr]
    unfold aboveO
    omega
  rw [← hr] at hq CA
  have H := Lib.hid h
  have HQ := Lib.hid hq
  have HRM := Lib.hid hrm
  clear h hx hi hq hrm hr hpi
  go_enter Tryz.func21, Tryz.ntmps21
  go_wp2_with fail
  refine CR.out.mono ?_
  rintro e w1 ⟨rfl, rfl⟩
  go_wp2_with fail
  refine (CB.out _).mono ?_
  rintro e w1 ⟨rfl, hb1⟩
  have HB1 := Lib.hid (HB0.out.trans (hb1.mono HB0.out.size))
  have HW1 := Lib.hid ((hb1.block w.heap.size (by simp)).trans (heap_alloc_new w _))
  have HZ1 := Lib.hid (show w.heap.size < w1.heap.size from by have h1 : _ ≤ w1.heap.size := hb1.size; simp at h1; omega)
  clear hb1
  go_wp2_with fail
  refine (CA.out _ HB1.out).mono ?_
  rintro e w3 ⟨V, rfl, hrow, hb3⟩
  obtain ⟨A, c, rfl, hnc, hcm, hA, hcell⟩ := own_formO hrow
  have HB3 := Lib.hid (HB1.out.trans (hb3.mono HB1.out.size))
  have HW3 := Lib.hid ((hb3.block w.heap.size HZ1.out).trans HW1.out)
  have HCL := Lib.hid hcell
  have HZ3 := Lib.hid (show w.heap.size < w3.heap.size from by have := HZ1.out; have := hb3.size; omega)
  have HT3 := Lib.hid (H.out.tab.below HB3.out)
  clear hb3 hrow hcell CR CB CA
  unfold maxLen at hcm
  go_wp2_with fail
  go_loopg [30] r.length (fun kk iv wr => ∃ i : Nat, iv = .int .i64 (i : Int) ∧ i + kk = r.length ∧ w3 = wr ∧ Hid (gvO (obT T) n (r.drop i) = q))
  case atStart => exact ⟨0, rfl, by omega, rfl, by rw [List.drop_zero]; exact HQ.out⟩
  case round =>
    obtain ⟨i, rfl, hik, rfl, hgq⟩ := hrel
    by_cases hi : i < r.length
    · obtain ⟨j, rfl⟩ : ∃ j, gk = j + 1 := ⟨gk - 1, by omega⟩
      obtain ⟨d, hd⟩ : ∃ d, r[i]? = some d := ⟨r[i], List.getElem?_eq_some_iff.2 ⟨hi, rfl⟩⟩
      obtain ⟨g1, rfl, hc1⟩ := HCL.out i (.int .i64 d) (by simp [intsO, hd])
      obtain ⟨xo, hxo⟩ := HRM.out d (List.mem_of_getElem? hd)
      obtain ⟨y, hy, hyo⟩ := findT_of_getO hxo
      have hym := (findT_some hy).1
      have hdI : I64 d := by
        have h1 := H.out.tab.rng y hym
        have h2 := H.out.tab.mxr
        have h3 := (findT_some hy).2
        exact ⟨by omega, by omega⟩
      have hob := HT3.out.objs y hym
      have KR := Lib.hid (ref_c HT3.out hdI)
      rw [ptrT_some hy] at KR
      have KS := Lib.hid (slot_c hob n)
      have hgq' := hgq.out
      rw [show r.drop i = d :: r.drop (i + 1) from by rw [List.drop_eq_getElem_cons hi]; congr 1; have := List.getElem?_eq_some_iff.1 hd; exact this.2, gvO, hxo, Option.bind_some, ← hyo] at hgq'
      cases hsi : slotI y.o.slots n with
      | none =>
        rw [slotV_none hsi] at KS
        have hqn : q = none := by
          unfold slO at hgq'
          rw [hsi] at hgq'
          exact hgq'.symm
        subst hqn
        have HROW := Lib.hid (setRow_heap w3 w.heap.size _ #[.int .i64 0, .int .i64 0, .string ⟨#[]⟩, .slice none 0 0] _ _ HW3.out)
        have HBR := Lib.hid (sbelow_setRow HB3.out (g := w.heap.size) (Nat.le_refl _) #[.int .i64 0, .int .i64 0, .string ⟨#[]⟩, .slice none 0 0])
        clear hgq hgq' hd hxo hy hyo hym hob hsi
        go_wp2_with fail
        refine KR.out.mono ?_
        rintro e w7 ⟨rfl, rfl⟩
        go_wp2_with fail
        refine KS.out.mono ?_
        rintro e w7 ⟨rfl, rfl⟩
        go_wp2_with (refine wpList_store_row rfl 33 (.tmp 6) (.tmp 52) rfl w.heap.size #[.int .i64 0, .int .i64 0, .string ⟨#[]⟩, .slice none 0 0] rfl rfl _ _ HW3.out (by kernel_rfl) rfl (by simp [Value.oneCell']) ?_)
        exact bodyPost_ret (results_rowP (P := Tryz.prog) rfl _ _ w.heap.size _ _ _ _ rfl HROW.out Tryz.underlying33 rfl (by kernel_rfl)) rfl ⟨rfl, HBR.out⟩
      | some k =>
        obtain ⟨s, hs⟩ := slotI_at hsi
        obtain ⟨g2, k2, c2, hsv, hv⟩ := slotV_some hob hsi
        rw [hv] at KS
        have hfl := H.out.flat y hym s (List.mem_of_getElem? hs)
        obtain ⟨A2, C2, hsvA, _, _, _, hcell2⟩ := own_formO hob.slots
        have hc2 : ∀ j, j < 8 → ∀ u, s.cells[j]? = some u → w3.cell? ⟨g2, k * 8 + j, none⟩ = some u := by
          intro j hj u hu
          obtain ⟨g3, e3, hc⟩ := hcell2 (k * 8 + j) u (by rw [slCells_at _ _ _ j hs hj]; exact hu)
          rw [hsvA, e3] at hsv
          injection hsv with e4 _ _
          injection e4 with e4
          injection e4 with e4 _ _
          subst e4
          exact hc
        have u3 := hc2 3 (by omega) _ rfl
        have u4 := hc2 4 (by omega) _ rfl
        have u5 := hc2 5 (by omega) _ rfl
        have u6 := hc2 6 (by omega) _ rfl
        have u7 := hc2 7 (by omega) _ rfl
        rw [hfl.2.2.1] at u4
        rw [hfl.2.2.2] at u6
        unfold slO at hgq'
        rw [hsi, Option.bind_some, hs] at hgq'
        dsimp only at hgq'
        cases hcl : s.clear with
        | true =>
          rw [hcl] at u3 hgq'
          have HG := Lib.hid (show gvO (obT T) n (r.drop (i + 1)) = q from hgq')
          clear hgq hgq' hd hxo hy hyo hym hob hsi hs hsv hv hfl hsvA hcell2 hc2 hcl u4 u5 u6 u7
          go_wp2_with fail
          refine KR.out.mono ?_
          rintro e w7 ⟨rfl, rfl⟩
          go_wp2_with fail
          refine KS.out.mono ?_
          rintro e w7 ⟨rfl, rfl⟩
          go_wp2_with fail
          go_roundg j
          case measure => omega
          case rel => exact ⟨i + 1, by go_num, by omega, rfl, HG.out⟩
        | false =>
          rw [hcl] at u3 hgq'
          have hqs : q = some s := by simpa using hgq'.symm
          subst hqs
          have CC := Lib.hid (show ∀ W, Calls Tryz.prog 59 #[.agg #[.int .i64 0, .int .i64 s.num, .string ⟨#[]⟩, .slice none 0 0]] W (fun e w' => e = .returned (.agg #[.int .i64 0, .int .i64 s.num, .string ⟨#[]⟩, .slice none 0 0]) ∧ Below W.heap.size W w') from fun W => clone_int s.num W)
          clear hgq hgq' hd hxo hy hyo hym hob hsi hs hsv hv hfl hsvA hcell2 hc2 hcl
          go_wp2_with fail
          refine KR.out.mono ?_
          rintro e w7 ⟨rfl, rfl⟩
          go_wp2_with fail
          refine KS.out.mono ?_
          rintro e w7 ⟨rfl, rfl⟩
          go_wp2_with fail
          refine (CC.out _).mono ?_
          rintro e w7 ⟨rfl, hb7⟩
          have HW7 := Lib.hid ((hb7.block w.heap.size HZ3.out).trans HW3.out)
          have HB7 := Lib.hid (HB3.out.trans (hb7.mono HB3.out.size))
          have HROW := Lib.hid (setRow_heap w7 w.heap.size _ #[.int .i64 0, .int .i64 s.num, .string ⟨#[]⟩, .slice none 0 0] _ _ HW7.out)
          have HBR := Lib.hid (sbelow_setRow HB7.out (g := w.heap.size) (Nat.le_refl _) #[.int .i64 0, .int .i64 s.num, .string ⟨#[]⟩, .slice none 0 0])
          clear hb7
          go_wp2_with (refine wpList_store_row rfl 33 (.tmp 6) (.tmp 50) rfl w.heap.size #[.int .i64 0, .int .i64 s.num, .string ⟨#[]⟩, .slice none 0 0] rfl rfl _ _ HW7.out (by kernel_rfl) rfl (by simp [Value.oneCell']) ?_)
          exact bodyPost_ret (results_rowP (P := Tryz.prog) rfl _ _ w.heap.size _ _ _ _ rfl HROW.out Tryz.underlying33 rfl (by kernel_rfl)) rfl ⟨rfl, HBR.out⟩
    · obtain rfl : i = r.length := by omega
      have hqn : q = none := by
        have := hgq.out
        rw [List.drop_length] at this
        exact this.symm
      subst hqn
      have HROW := Lib.hid (setRow_heap w3 w.heap.size _ #[.int .i64 0, .int .i64 0, .string ⟨#[]⟩, .slice none 0 0] _ _ HW3.out)
      have HBR := Lib.hid (sbelow_setRow HB3.out (g := w.heap.size) (Nat.le_refl _) #[.int .i64 0, .int .i64 0, .string ⟨#[]⟩, .slice none 0 0])
      clear hgq
      go_wp2_with (refine wpList_store_row rfl 33 (.tmp 6) (.tmp 52) rfl w.heap.size #[.int .i64 0, .int .i64 0, .string ⟨#[]⟩, .slice none 0 0] rfl rfl _ _ HW3.out (by kernel_rfl) rfl (by simp [Value.oneCell']) ?_)
      exact bodyPost_ret (results_rowP (P := Tryz.prog) rfl _ _ w.heap.size _ _ _ _ rfl HROW.out Tryz.underlying33 rfl (by kernel_rfl)) rfl ⟨rfl, HBR.out⟩
end Go.Proofs.YtnphgcbknfmapaaGreatDoor
namespace Go.Proofs.YtnphgcbknfmapaaGreatDoor
open Go.RowKit Go.Lib
set_option linter.unusedVariables false

theorem Stp.under {w w1 w' : World} {B a m : Nat} {T : List OM} {mx o p : Int} (h : TB w B a m T mx) (hb : Below w.heap.size w w1) (hT : Tab w' B a m (updT T o (setP p)) mx) (hc : Chg (fun b => b ∈ blkT T) w1 w') (hp : p = -1 ∨ hasO (obT T) p = true) (hi : o ∉ rowO (obT T) OB.parent p) : Stp w w' B a m T (updT T o (setP p)) mx mx := by
  refine ⟨⟨hT, ?_, h.bare.upd o _⟩, (Chg.of_below hb).trans' hc ?_, ?_⟩
  · rw [obT_upd]
    exact h.ok.chparent hp hi
  · intro i _ hm
    exact List.mem_cons_of_mem _ (List.mem_cons_of_mem _ hm)
  · intro b hb
    rw [blkT_upd] at hb
    exact .inl hb
end Go.Proofs.YtnphgcbknfmapaaGreatDoor
