/- Contracts of the functions that the statement reaches, and the plain mathematics beneath: several texts joined. -/
import Derived.WalkKit
import Derived.WalkSmall
import Derived.OwnWalk
import Derived.StillTailTactics
import Derived.Laws.AppendOwn
import Derived.Deep.AppendLies
import Derived.Deep.RegionLaw
import Derived.Test.YtnphgcbknfmapaaGreatDoorWquAC
import Derived.Test.YtnphgcbknfmapaaGreatDoorShelf
import Derived.Test.YtnphgcbknfmapaaGreatDoorWquAA
namespace Go.Proofs.YtnphgcbknfmapaaGreatDoor
open Go.RowKit Go.Lib
set_option linter.unusedVariables false

/-- May a byte stand in a name? -/
def nmC (c : UInt8) : Bool := (97 ≤ c && c ≤ 122) || (48 ≤ c && c ≤ 57) || c == 95
/-- Is a text a name? -/
def nmB (l : List UInt8) : Bool := decide (1 ≤ l.length) && decide (l.length ≤ 32) && !(48 ≤ l.headD 0 && l.headD 0 ≤ 57) && l.all nmC
theorem ret_bool {a b : Bool} (h : a = b) : Ending.returned (.bool a) = .returned (.bool b) := by rw [h]

theorem nmC_int (c : UInt8) : nmC c = true ↔ (97 ≤ (c.toNat : Int) ∧ (c.toNat : Int) ≤ 122) ∨ (48 ≤ (c.toNat : Int) ∧ (c.toNat : Int) ≤ 57) ∨ (c.toNat : Int) = 95 := by
  simp only [nmC, Bool.or_eq_true, Bool.and_eq_true, decide_eq_true_eq, beq_iff_eq, UInt8.le_iff_toNat_le, ← UInt8.toNat_inj]
  simp only [UInt8.toNat_ofNat]
  omega

theorem take_snoc (s : ByteArray) (k : Nat) (h : k < s.size) : s.data.toList.take (k + 1) = s.data.toList.take k ++ [s[k]] := by
  rw [List.take_succ_eq_append_getElem (by simpa using h)]; rfl

theorem nmB_long (s : ByteArray) (h : (s.size : Int) < 1 ∨ 32 < (s.size : Int)) : nmB s.data.toList = false := by
  have e : s.data.toList.length = s.size := by simp
  rw [Bool.eq_false_iff]
  intro hn
  simp only [nmB, Bool.and_eq_true, decide_eq_true_eq, e] at hn
  omega
theorem nmB_digit (s : ByteArray) (h0 : 0 < s.size) (h1 : 48 ≤ (s[0].toNat : Int)) (h2 : (s[0].toNat : Int) ≤ 57) : nmB s.data.toList = false := by
  rw [Bool.eq_false_iff]
  intro hn
  simp only [nmB, Bool.and_eq_true, Bool.not_eq_true'] at hn
  have hd : s.data.toList.headD 0 = s[0] := by
    rw [List.headD_eq_head?_getD, List.head?_eq_getElem?, List.getElem?_eq_getElem (by simpa using h0)]; rfl
  have := hn.1.2
  rw [hd] at this
  simp only [Bool.and_eq_false_iff, decide_eq_false_iff_not, UInt8.le_iff_toNat_le] at this
  simp only [UInt8.toNat_ofNat] at this
  omega
theorem nmB_bad (s : ByteArray) (k : Nat) (h0 : k < s.size) (h1 : nmC s[k] = false) : nmB s.data.toList = false := by
  rw [Bool.eq_false_iff]
  intro hn
  simp only [nmB, Bool.and_eq_true, List.all_eq_true] at hn
  have := hn.2 s[k] (by show s.data[k] ∈ s.data.toList; simp)
  rw [h1] at this
  cases this
theorem nmB_good (s : ByteArray) (h1 : 1 ≤ (s.size : Int)) (h2 : (s.size : Int) ≤ 32) (h0 : 0 < s.size) (h3 : (s[0].toNat : Int) < 48 ∨ 57 < (s[0].toNat : Int)) (h4 : (s.data.toList.take s.size).all nmC = true) : nmB s.data.toList = true := by
  have e : s.data.toList.length = s.size := by simp
  rw [List.take_of_length_le (by omega)] at h4
  have hd : s.data.toList.headD 0 = s[0] := by
    rw [List.headD_eq_head?_getD, List.head?_eq_getElem?, List.getElem?_eq_getElem (by simpa using h0)]; rfl
  simp only [nmB, h4, hd, e, Bool.and_true, Bool.and_eq_true, decide_eq_true_eq, Bool.not_eq_true', Bool.and_eq_false_iff, decide_eq_false_iff_not, UInt8.le_iff_toNat_le]
  simp only [UInt8.toNat_ofNat]
  omega
theorem nmC_not (c : UInt8) (h : ¬((97 ≤ (c.toNat : Int) ∧ (c.toNat : Int) ≤ 122) ∨ (48 ≤ (c.toNat : Int) ∧ (c.toNat : Int) ≤ 57) ∨ (c.toNat : Int) = 95)) : nmC c = false := by
  rw [Bool.eq_false_iff]; exact fun e => h ((nmC_int c).1 e)

set_option maxHeartbeats 400000 in
theorem name_any (s : ByteArray) (w : World) (hs : s.size ≤ 140737488351232) :
    Calls Tryz.prog 105 #[.string s] w fun e w' => e = .returned (.bool (nmB s.data.toList)) ∧ w = w' := by
  by_cases h1 : (s.size : Int) < 1 ∨ 32 < (s.size : Int)
  · have hn := Lib.hid (nmB_long s h1)
    go_enter Tryz.func105, Tryz.ntmps105
    go_wp2
    all_goals (go_ret; exact ⟨ret_bool hn.out.symm, rfl⟩)
  have h1a : 1 ≤ (s.size : Int) := by omega
  have h1b : (s.size : Int) ≤ 32 := by omega
  have h0 : 0 < s.size := by omega
  clear h1
  by_cases h2 : 48 ≤ (s[0].toNat : Int) ∧ (s[0].toNat : Int) ≤ 57
  · obtain ⟨h2a, h2b⟩ := h2
    have hn := Lib.hid (nmB_digit s h0 h2a h2b)
    go_enter Tryz.func105, Tryz.ntmps105
    go_wp2
    go_ret; exact ⟨ret_bool hn.out.symm, rfl⟩
  have h2' : (s[0].toNat : Int) < 48 ∨ 57 < (s[0].toNat : Int) := by omega
  have H2 := Lib.hid h2'
  clear h2 
  rcases h2' with h2 | h2
  all_goals
    go_enter Tryz.func105, Tryz.ntmps105
    go_wp2
    go_loop [25] (fun i => ∃ k : Nat, k ≤ s.size ∧ i = .int .i64 k ∧ Hid ((s.data.toList.take k).all nmC = true)) (fun i => s.size - (intOf i).toNat)
    case atStart => exact ⟨0, Nat.zero_le _, rfl, rfl⟩
    case round =>
      obtain ⟨k, hk, rfl, hall⟩ := hrel
      by_cases hlt : k < s.size
      · go_wp2
        all_goals first
          | (go_ret
             have hb : nmC s[k] = false := nmC_not _ (by simp only [bne_iff_ne, ne_eq] at *; omega)
             exact ⟨ret_bool (nmB_bad s k hlt hb).symm, rfl⟩)
          | (have hb : nmC s[k] = true := (nmC_int _).2 (by simp only [bne_eq_false_iff_eq] at *; omega)
             refine ⟨⟨k + 1, by omega, by go_num, ?_⟩, by simp [intOf]; omega⟩
             show List.all _ _ = true
             rw [take_snoc s k hlt, List.all_append, hall.out, List.all_cons, hb]
             rfl)
      · obtain rfl : k = s.size := by omega
        have hn := Lib.hid (nmB_good s h1a h1b h0 H2.out hall.out)
        go_wp2
        go_ret; exact ⟨ret_bool hn.out.symm, rfl⟩


/-- What each object has. -/
def biL : List ByteArray := [⟨#[110, 97, 109, 101]⟩, ⟨#[111, 119, 110, 101, 114]⟩, ⟨#[108, 111, 99, 97, 116, 105, 111, 110]⟩, ⟨#[99, 111, 110, 116, 101, 110, 116, 115]⟩, ⟨#[112, 108, 97, 121, 101, 114]⟩, ⟨#[112, 114, 111, 103, 114, 97, 109, 109, 101, 114]⟩, ⟨#[119, 105, 122, 97, 114, 100]⟩, ⟨#[114]⟩, ⟨#[119]⟩, ⟨#[102]⟩]
/-- Is a text one of what each object has? -/
def biB (n : ByteArray) : Bool := containsS biL n
theorem bi_cells (w : World) : ∀ j, j < biL.length → (w.alloc (.cells #[.string ⟨#[110, 97, 109, 101]⟩, .string ⟨#[111, 119, 110, 101, 114]⟩, .string ⟨#[108, 111, 99, 97, 116, 105, 111, 110]⟩, .string ⟨#[99, 111, 110, 116, 101, 110, 116, 115]⟩, .string ⟨#[112, 108, 97, 121, 101, 114]⟩, .string ⟨#[112, 114, 111, 103, 114, 97, 109, 109, 101, 114]⟩, .string ⟨#[119, 105, 122, 97, 114, 100]⟩, .string ⟨#[114]⟩, .string ⟨#[119]⟩, .string ⟨#[102]⟩] 9)).cell? ⟨w.heap.size, 0 + j, none⟩ = some (.string (biL.getD j ByteArray.empty)) := by
  intro j hj
  have hb := heap_alloc_new w (.cells #[.string ⟨#[110, 97, 109, 101]⟩, .string ⟨#[111, 119, 110, 101, 114]⟩, .string ⟨#[108, 111, 99, 97, 116, 105, 111, 110]⟩, .string ⟨#[99, 111, 110, 116, 101, 110, 116, 115]⟩, .string ⟨#[112, 108, 97, 121, 101, 114]⟩, .string ⟨#[112, 114, 111, 103, 114, 97, 109, 109, 101, 114]⟩, .string ⟨#[119, 105, 122, 97, 114, 100]⟩, .string ⟨#[114]⟩, .string ⟨#[119]⟩, .string ⟨#[102]⟩] 9)
  rw [Nat.zero_add, cell_of_row _ _ j _ _ _ hb]
  have hj' : j < 10 := hj
  have : ∀ j : Fin 10, (#[.string ⟨#[110, 97, 109, 101]⟩, .string ⟨#[111, 119, 110, 101, 114]⟩, .string ⟨#[108, 111, 99, 97, 116, 105, 111, 110]⟩, .string ⟨#[99, 111, 110, 116, 101, 110, 116, 115]⟩, .string ⟨#[112, 108, 97, 121, 101, 114]⟩, .string ⟨#[112, 114, 111, 103, 114, 97, 109, 109, 101, 114]⟩, .string ⟨#[119, 105, 122, 97, 114, 100]⟩, .string ⟨#[114]⟩, .string ⟨#[119]⟩, .string ⟨#[102]⟩] : Array Value)[j.val]? = some (.string (biL.getD j.val ByteArray.empty)) := by
    intro j
    match j with
    | ⟨0, _⟩ => rfl
    | ⟨1, _⟩ => rfl
    | ⟨2, _⟩ => rfl
    | ⟨3, _⟩ => rfl
    | ⟨4, _⟩ => rfl
    | ⟨5, _⟩ => rfl
    | ⟨6, _⟩ => rfl
    | ⟨7, _⟩ => rfl
    | ⟨8, _⟩ => rfl
    | ⟨9, _⟩ => rfl
  exact this ⟨j, hj'⟩
set_option maxHeartbeats 1000000 in
theorem obuiltin_c (n : ByteArray) (w : World) : Calls Tryz.prog 100 #[.string n] w fun e w' => e = .returned (.bool (biB n)) ∧ Below w.heap.size w w' := by
  have C := Lib.hid (Tryz.slices_Contains_string w.heap.size 0 10 10 biL n _ (by decide) (by decide) (bi_cells w))
  rw [show biL.take 10 = biL from rfl] at C
  unfold biB
  generalize containsS biL n = b at C ⊢
  go_enter Tryz.func100, Tryz.ntmps100
  go_wp2_with fail
  refine C.out.mono ?_
  rintro e w' ⟨rfl, rfl⟩
  go_wp2_with fail
  go_ret
  exact ⟨rfl, (Below.refl _ _).alloc (Nat.le_refl _) _⟩
theorem pbuiltin_c (n : ByteArray) (w : World) : Calls Tryz.prog 55 #[.string n] w fun e w' => e = .returned (.bool (biB n)) ∧ Below w.heap.size w w' := by
  have C := Lib.hid (obuiltin_c n w)
  generalize biB n = b at C ⊢
  go_enter Tryz.func55, Tryz.ntmps55
  go_wp2_with fail
  refine C.out.mono ?_
  rintro e w' ⟨rfl, hb⟩
  have HB := Lib.hid hb
  clear hb
  go_wp2_with fail
  go_ret
  exact ⟨rfl, HB.out⟩
end Go.Proofs.YtnphgcbknfmapaaGreatDoor
namespace Go.Proofs.YtnphgcbknfmapaaGreatDoor
open Go.RowKit Go.Lib
set_option linter.unusedVariables false

/-- A number as a value. -/
def intV (n : Int) : Value := .agg #[.int .i64 0, .int .i64 n, .string ⟨#[]⟩, .slice none 0 0]
set_option maxHeartbeats 400000 in
theorem printable_0 (w : World) : Calls Tryz.prog 85 #[.string ⟨#[]⟩] w fun e w' => e = .returned (.bool true) ∧ w = w' := by
  go_enter Tryz.func85, Tryz.ntmps85
  go_wp2
  go_loopg [6] 0 (fun kk iv wr => iv = .int .i64 0 ∧ w = wr)
  case atStart => exact ⟨rfl, rfl⟩
  case round =>
    obtain ⟨rfl, rfl⟩ := hrel
    go_wp2_with fail
    go_ret
    exact ⟨rfl, rfl⟩
set_option maxHeartbeats 2000000 in
theorem own_int (n : Int) (w : World) : Calls Tryz.prog 119 #[intV n] w fun e w' => e = .returned .nilIface ∧ Below w.heap.size w w' := by
  unfold intV
  have CP := Lib.hid (fun W => printable_0 W)
  go_enter Tryz.func119, Tryz.ntmps119
  go_wp2_with fail
  refine (CP.out _).mono ?_
  rintro e w1 ⟨rfl, rfl⟩
  go_wp2_with fail
  go_ret
  exact ⟨rfl, (Below.refl _ _).alloc (Nat.le_refl _) _⟩
set_option maxHeartbeats 2000000 in
theorem walk_int (n : Int) (L : Nat) (w : World) (hL : w.heap[L]? = some (.cells #[.int .i64 4096] 3 (0, 0))) :
    Calls Tryz.prog 103 #[intV n, .int .i64 1, .pointer (some ⟨L, 0, none⟩)] w fun e w' => e = .returned .nilIface ∧ Chg (fun b => b = L) w w' := by
  have l0 : w.cell? ⟨L, 0, none⟩ = some (.int .i64 4096) := cell_of_row w L 0 _ _ _ hL
  have lf0 : w.frozen? ⟨L, 0, none⟩ = false := by simp [World.frozen?, hL]
  have hlt : L < w.heap.size := (Array.getElem?_eq_some_iff.1 hL).1
  obtain ⟨w1, hw1⟩ : ∃ w1, w1 = (w.setCell ⟨L, 0, none⟩ (.int .i64 4095)).alloc (.cells #[.int .i64 0, .int .i64 n, .string ⟨#[]⟩, .slice none 0 0] 33) := ⟨_, rfl⟩
  have hz1 : w1.heap.size = w.heap.size + 1 := by rw [hw1]; simp [World.setCell]
  have hg : w1.heap[w.heap.size]? = some (.cells #[.int .i64 0, .int .i64 n, .string ⟨#[]⟩, .slice none 0 0] 33 (0, 0)) := by
    rw [hw1]
    have := heap_alloc_new (w.setCell ⟨L, 0, none⟩ (.int .i64 4095)) (.cells #[.int .i64 0, .int .i64 n, .string ⟨#[]⟩, .slice none 0 0] 33)
    rwa [show (w.setCell ⟨L, 0, none⟩ (.int .i64 4095)).heap.size = w.heap.size from by simp [World.setCell]] at this
  have u3 : w1.cell? ⟨w.heap.size, 3, none⟩ = some (.slice none 0 0) := cell_of_row w1 w.heap.size 3 _ _ _ hg
  have HC := Lib.hid (show Chg (fun b => b = L) w w1 by rw [hw1]; exact (Chg.set (S := fun b => b = L) w (p := ⟨L, 0, none⟩) rfl _).trans (Chg.new _ _))
  have HW1 := Lib.hid hw1
  have HZ1 := Lib.hid hz1
  have CO := Lib.hid (own_int n w1)
  unfold intV at CO ⊢
  rw [hw1] at u3
  clear hg hw1 hz1 hL
  go_enter Tryz.func103, Tryz.ntmps103
  go_wp2_with fail
  rw [← HW1.out]
  refine CO.out.mono ?_
  rintro e w2 ⟨rfl, hb2⟩
  have x3 : w2.cell? ⟨w.heap.size, 3, none⟩ = some (.slice none 0 0) := (hb2.cell (p := ⟨w.heap.size, 3, none⟩) (by rw [HZ1.out]; exact Nat.lt_succ_self _)).trans (by rw [HW1.out]; exact u3)
  have HB2 := Lib.hid hb2
  clear hb2 u3 HW1 CO l0 lf0
  go_wp2_with fail
  go_loopg [42] 0 (fun kk v wr => v = .int .i64 0 ∧ w2 = wr)
  case atStart => exact ⟨rfl, rfl⟩
  case round =>
    obtain ⟨rfl, rfl⟩ := hrel
    go_wp2_with fail
    go_ret
    exact ⟨rfl, HC.out.trans (Chg.of_below HB2.out)⟩
set_option maxHeartbeats 2000000 in
theorem valid_int (n : Int) (w : World) : Calls Tryz.prog 58 #[intV n] w fun e w' => e = .returned .nilIface ∧ Below w.heap.size w w' := by
  obtain ⟨wa, hwa⟩ : ∃ wa, wa = (w.alloc (.cells #[.int .i64 0, .int .i64 n, .string ⟨#[]⟩, .slice none 0 0] 33)).alloc (.cells #[.int .i64 4096] 3) := ⟨_, rfl⟩
  have HB := Lib.hid (show Below w.heap.size w wa by rw [hwa]; exact ((Below.refl _ _).alloc (Nat.le_refl _) _).alloc (by simp) _)
  have hg : wa.heap[w.heap.size + 1]? = some (.cells #[.int .i64 4096] 3 (0, 0)) := by rw [hwa]; exact heap_alloc2_new _ _ _
  have CW := Lib.hid (walk_int n (w.heap.size + 1) wa hg)
  have HW := Lib.hid hwa
  unfold intV at CW ⊢
  clear hg hwa
  go_enter Tryz.func58, Tryz.ntmps58
  go_wp2_with fail
  rw [← HW.out]
  refine CW.out.mono ?_
  rintro e w2 ⟨rfl, hb2⟩
  have HB2 := Lib.hid hb2
  clear hb2 HW CW
  go_wp2_with fail
  go_ret
  exact ⟨rfl, HB.out.trans (HB2.out.below HB.out.size (fun i e => by omega))⟩
set_option maxHeartbeats 2000000 in
theorem clone_int (n : Int) (w : World) : Calls Tryz.prog 59 #[intV n] w fun e w' => e = .returned (intV n) ∧ Below w.heap.size w w' := by
  unfold intV
  go_enter Tryz.func59, Tryz.ntmps59
  go_wp2_with fail
  go_loopg [3, 9] 0 (fun kk lv v wr => lv = .slice none 0 0 ∧ v = .int .i64 0 ∧ wr = (w.alloc (.cells #[.int .i64 0, .int .i64 n, .string ⟨#[]⟩, .slice none 0 0] 33)).alloc (.cells #[.int .i64 0, .int .i64 0, .string ⟨#[]⟩, .slice none 0 0] 33))
  case atStart => exact ⟨rfl, rfl, rfl⟩
  case round =>
    obtain ⟨rfl, rfl, rfl⟩ := hrel
    go_wp2_with fail
    exact bodyPost_ret (results_cell_row (P := Tryz.prog) rfl _ _ (w.heap.size + 1) _ _ _ _ rfl (heap_alloc2_new _ _ _) Tryz.underlying33 rfl (by kernel_rfl)) rfl ⟨rfl, ((Below.refl _ _).alloc (Nat.le_refl _) _).alloc (by simp) _⟩
end Go.Proofs.YtnphgcbknfmapaaGreatDoor
namespace Go.Proofs.YtnphgcbknfmapaaGreatDoor
open Go.RowKit Go.Lib
set_option linter.unusedVariables false

end Go.Proofs.YtnphgcbknfmapaaGreatDoor
namespace Go.Proofs.YtnphgcbknfmapaaGreatDoor
open Go.RowKit Go.Lib
set_option linter.unusedVariables false

/-- An object without its properties. -/
def bareO (x : OB) : OB := { x with defs := [], slots := [] }
theorem getO_bare (l : List OB) (o : Int) : getO (l.map bareO) o = (getO l o).map bareO := by
  unfold getO
  rw [List.find?_map]
  rfl
theorem hasO_bare (l : List OB) (o : Int) : hasO (l.map bareO) o = hasO l o := by
  unfold hasO
  rw [getO_bare]
  cases getO l o <;> rfl
theorem getO_rep {l : List OB} {o k : Int} {x' : OB} (hid : x'.id = o) : getO (repO l o x') k = if k = o then (if hasO l o = true then some x' else none) else getO l k := by
  unfold hasO getO repO
  induction l with
  | nil => by_cases e : k = o <;> simp [e]
  | cons y r ih =>
    rw [List.map_cons, List.find?_cons, List.find?_cons, List.find?_cons]
    by_cases e1 : y.id = o
    · have b1 : (y.id == o) = true := by simpa using e1
      simp only [b1, if_true]
      by_cases e2 : k = o
      · subst e2
        have b2 : (x'.id == k) = true := by simpa using hid
        simp [b2]
      · have b2 : (x'.id == k) = false := by simp; omega
        have b3 : (y.id == k) = false := by simp; omega
        rw [if_neg e2] at ih
        simp only [b2, b3, if_neg e2]
        exact ih
    · have b1 : (y.id == o) = false := by simpa using e1
      simp only [b1, if_false, Bool.false_eq_true]
      by_cases e2 : k = o
      · subst e2
        simpa [b1] using ih
      · rw [if_neg e2] at ih ⊢
        cases b3 : (y.id == k)
        · exact ih
        · rfl
/-- The table's rows come to an end. -/
def OkS (l : List OB) (mx : Int) : Prop := OkT (l.map bareO) mx
theorem OkS.create {l : List OB} {mx : Int} (h : OkS l mx) (p ow : Int) (ss : List SL) (hp : p = -1 ∨ hasO l p = true) : OkS (l ++ [newO mx p ow ss]) (mx + 1) := by
  have := OkT.create h p ow (by rw [hasO_bare]; exact hp)
  unfold OkS
  rw [List.map_append]
  exact this
theorem OkS.rep {l : List OB} {mx o : Int} {x x' : OB} (h : OkS l mx) (hs : SortO l) (hx : getO l o = some x) (hb : bareO x' = bareO x) : OkS (repO l o x') mx := by
  have : (repO l o x').map bareO = l.map bareO := by
    unfold repO
    rw [List.map_map]
    apply List.map_congr_left
    intro y hy
    simp only [Function.comp]
    by_cases e : y.id = o
    · have b : (y.id == o) = true := by simpa using e
      have h2 := getO_of_mem hs hy
      rw [e, hx] at h2
      injection h2 with h2
      rw [b, if_pos rfl, hb, h2]
    · have b : (y.id == o) = false := by simpa using e
      rw [b]
      rfl
  unfold OkS
  rw [this]
  exact h
/-- Such a property: a number at its time, no text. -/
def FlatS (s : SL) : Prop := 0 ≤ s.bits ∧ s.bits ≤ 7 ∧ s.kind = 0 ∧ s.text = ⟨#[]⟩
theorem FlatS.fresh {s : SL} (h : FlatS s) (ow : Int) : FlatS (freshO s ow) := ⟨h.1, h.2.1, rfl, rfl⟩
/-- A table with properties in memory. -/
structure TS (w : World) (B a m : Nat) (T : List OM) (mx : Int) : Prop where
  tab : Tab w B a m T mx
  ok : OkS (obT T) mx
  flat : ∀ x ∈ T, ∀ s ∈ x.o.slots, FlatS s
  bare : ∀ x ∈ T, (x.o.slots = [] → x.sv = .slice none 0 0) ∧ (x.o.defs = [] → x.dv = .slice none 0 0)
/-- What a change leaves: a table again; all but its own blocks is as it was. -/
structure StS (w w' : World) (B a m : Nat) (T T' : List OM) (mx mx' : Int) : Prop where
  ts : TS w' B a m T' mx'
  chg : Chg (fun b => b ∈ a :: m :: blkT T) w w'
  new : ∀ b ∈ blkT T', b ∈ blkT T ∨ w.heap.size ≤ b
theorem TS.keep {w w' : World} {B a m : Nat} {T : List OM} {mx : Int} (h : TS w B a m T mx) (hb : Below w.heap.size w w') : TS w' B a m T mx := ⟨h.tab.below hb, h.ok, h.flat, h.bare⟩
theorem StS.refl {w : World} {B a m : Nat} {T : List OM} {mx : Int} (h : TS w B a m T mx) : StS w w B a m T T mx mx := ⟨h, .refl _ _, fun b hb => .inl hb⟩
theorem StS.of_below {w w' : World} {B a m : Nat} {T : List OM} {mx : Int} (h : TS w B a m T mx) (hb : Below w.heap.size w w') : StS w w' B a m T T mx mx := ⟨h.keep hb, .of_below hb, fun b hb => .inl hb⟩
theorem StS.trans {w w1 w2 : World} {B a m : Nat} {T T1 T2 : List OM} {mx mx1 mx2 : Int} (h : StS w w1 B a m T T1 mx mx1) (k : StS w1 w2 B a m T1 T2 mx1 mx2) : StS w w2 B a m T T2 mx mx2 := by
  refine ⟨k.ts, h.chg.trans' k.chg ?_, ?_⟩
  · intro i hi hm
    rcases List.mem_cons.1 hm with rfl | hm
    · exact List.mem_cons_self ..
    rcases List.mem_cons.1 hm with rfl | hm
    · exact List.mem_cons_of_mem _ (List.mem_cons_self ..)
    rcases h.new i hm with h1 | h1
    · exact List.mem_cons_of_mem _ (List.mem_cons_of_mem _ h1)
    · omega
  · intro b hb
    rcases k.new b hb with h1 | h1
    · exact h.new b h1
    · exact .inr (Nat.le_trans h.chg.size h1)
/-- One object replaced where it lay. -/
theorem TS.rep {w w' : World} {B a m : Nat} {T : List OM} {mx o : Int} (h : TS w B a m T mx) {x : OM} (hx : findT T o = some x) (x' : OM) (hid : bareO x'.o = bareO x.o) (hg : x'.g = x.g)
    (hc : Chg (fun b => b ∈ x.blocks) w w') (hob : ObjAt w' B x') (hbl : ∀ b ∈ x'.blocks, b ∈ x.blocks ∨ w.heap.size ≤ b) (hnd : x'.blocks.Nodup) (hf : ∀ s ∈ x'.o.slots, FlatS s) (hbr : (x'.o.slots = [] → x'.sv = .slice none 0 0) ∧ (x'.o.defs = [] → x'.dv = .slice none 0 0)) : StS w w' B a m T (repT T o x') mx mx := by
  have hi : x'.o.id = x.o.id := by have := congrArg OB.id hid; exact this
  have hxb : ∀ b ∈ x.blocks, b ∈ blkT T := fun b hb => List.mem_flatMap.2 ⟨x, (findT_some hx).1, hb⟩
  refine ⟨⟨h.tab.rep hx x' hi hg hc hob hbl hnd, ?_, ?_, ?_⟩, hc.mono fun i _ hm => List.mem_cons_of_mem _ (List.mem_cons_of_mem _ (hxb i hm)), ?_⟩
  · rw [obT_rep]
    exact h.ok.rep h.tab.sort (x := x.o) (by rw [getO_obT, hx]; rfl) hid
  · intro y hy
    unfold repT at hy
    obtain ⟨z, hz, rfl⟩ := List.mem_map.1 hy
    by_cases e : (z.o.id == o) = true
    · rw [if_pos e]; exact hf
    · rw [if_neg e]; exact h.flat z hz
  · intro y hy
    unfold repT at hy
    obtain ⟨z, hz, rfl⟩ := List.mem_map.1 hy
    by_cases e : (z.o.id == o) = true
    · rw [if_pos e]; exact hbr
    · rw [if_neg e]; exact h.bare z hz
  · intro b hb
    unfold blkT repT at hb
    obtain ⟨y, hy, hb⟩ := List.mem_flatMap.1 hb
    obtain ⟨z, hz, rfl⟩ := List.mem_map.1 hy
    by_cases e : (z.o.id == o) = true
    · rw [if_pos e] at hb
      rcases hbl b hb with h1 | h1
      · exact .inl (hxb b h1)
      · exact .inr h1
    · rw [if_neg e] at hb
      exact .inl (List.mem_flatMap.2 ⟨z, hz, hb⟩)

/-- An object that is new, with properties, where it lies. -/
def newS (mx p ow : Int) (g : Nat) (ss : List SL) (sv : Value) : OM := ⟨newO mx p ow ss, g, .slice none 0 0, sv⟩
theorem Tab.growS {w w' : World} {B a m : Nat} {T : List OM} {mx p ow : Int} {ss : List SL} {sv : Value} (h : Tab w B a m T mx) (g : Nat) (hg : w.heap.size ≤ g)
    (htab : w'.heap[a]? = some (.cells #[.map (some m), .int .i64 (mx + 1)] 84 (0, 0)))
    (hmap : w'.ownsMap Tryz.prog 3 ptrR m (T.length + 1) ((DataW.map (datT T)).put (.int .i64 (mx + 1)) (.lit (.int .i64 (g : Int)))))
    (hnew : ObjAt w' B (newS mx p ow g ss sv)) (hsv : ∀ b, sv.ownBlock = some b → w.heap.size ≤ b ∧ b ≠ g)
    (hold : ∀ b ∈ blkT T, w'.heap[b]? = w.heap[b]?) (hf : T.length < 512) (hm : mx + 1 < 1073741824) : Tab w' B a m (T ++ [newS mx p ow g ss sv]) (mx + 1) := by
  have hlt := h.lt
  have hB := h.base a (List.mem_cons_self ..)
  have hla := hlt a (List.mem_cons_self ..)
  have hmx := h.mxr
  have hid : (newS mx p ow g ss sv).o.id = mx + 1 := rfl
  have hbk : blkT (T ++ [newS mx p ow g ss sv]) = blkT T ++ (g :: sv.ownBlock.toList) := by simp [blkT, OM.blocks, newS, Value.ownBlock]
  have hlast : ∀ y ∈ T, y.o.id < (newS mx p ow g ss sv).o.id := fun y hy => by have := h.rng y hy; rw [hid]; omega
  have hnb : ∀ b, b ∈ g :: sv.ownBlock.toList → w.heap.size ≤ b := by
    intro b hb
    rcases List.mem_cons.1 hb with rfl | hb
    · exact hg
    · exact (hsv b (by simpa using hb)).1
  refine ⟨htab, ?_, ?_, ?_, ?_, ?_, by simp; omega, by omega, ?_⟩
  · have e := datT_put T (newS mx p ow g ss sv) hlast
    rw [hid] at e
    rw [show (T ++ [newS mx p ow g ss sv]).length = T.length + 1 from by simp, ← e]
    exact hmap
  · intro x hx
    rcases List.mem_append.1 hx with hx | hx
    · exact (h.objs x hx).keep fun b hb => hold b (List.mem_flatMap.2 ⟨x, hx, hb⟩)
    · rw [List.mem_singleton] at hx
      subst hx
      exact hnew
  · rw [hbk]
    have hs := h.sep
    rw [show a :: m :: (blkT T ++ (g :: sv.ownBlock.toList)) = (a :: m :: blkT T) ++ (g :: sv.ownBlock.toList) from rfl, List.nodup_append]
    refine ⟨hs, ?_, ?_⟩
    · rw [List.nodup_cons]
      refine ⟨fun e => (hsv g (by simpa using e)).2 rfl, ?_⟩
      cases sv.ownBlock <;> simp
    · intro x hx y hy e
      have := hlt x hx
      have := hnb y hy
      omega
  · rw [hbk]
    intro b hb
    rw [show a :: m :: (blkT T ++ (g :: sv.ownBlock.toList)) = (a :: m :: blkT T) ++ (g :: sv.ownBlock.toList) from rfl] at hb
    rcases List.mem_append.1 hb with hb | hb
    · exact h.base b hb
    · have := hnb b hb
      omega
  · unfold SortO obT
    rw [List.map_append, List.pairwise_append]
    refine ⟨h.sort, by simp, ?_⟩
    intro x hx y hy
    obtain ⟨z, hz, rfl⟩ := List.mem_map.1 hx
    simp only [List.map_cons, List.map_nil, List.mem_singleton] at hy
    subst hy
    exact hlast z hz
  · intro x hx
    rcases List.mem_append.1 hx with hx | hx
    · have := h.rng x hx; omega
    · rw [List.mem_singleton] at hx
      subst hx
      rw [hid]
      omega
end Go.Proofs.YtnphgcbknfmapaaGreatDoor
namespace Go.Proofs.YtnphgcbknfmapaaGreatDoor
open Go.RowKit Go.Lib
set_option linter.unusedVariables false

theorem Tab.raiseS {w : World} {B a m : Nat} {T : List OM} {mx : Int} (h : Tab w B a m T mx) (hm : mx + 1 < 1073741824) : Tab (w.setCell ⟨a, 1, none⟩ (.int .i64 (mx + 1))) B a m T (mx + 1) := by
  have hs := h.sep
  rw [List.nodup_cons] at hs
  have hoth : ∀ b, b ≠ a → (w.setCell ⟨a, 1, none⟩ (.int .i64 (mx + 1))).heap[b]? = w.heap[b]? := fun b hb => Below.heap_setCell _ _ _ _ hb
  have hmx := h.mxr
  refine ⟨?_, ownsMap_same h.map (hoth m fun e => hs.1 (by rw [← e]; exact List.mem_cons_self ..)), ?_, h.sep, h.base, h.sort, h.few, by omega, fun x hx => by have := h.rng x hx; omega⟩
  · rw [heap_setCell_same w a 1 _ _ _ h.tab]
    rfl
  · intro x hx
    exact (h.objs x hx).keep fun b hb => hoth b fun e => hs.1 (by rw [← e]; exact List.mem_cons_of_mem _ (List.mem_flatMap.2 ⟨x, hx, hb⟩))

theorem slot_info : (Tryz.prog.info? 35).map (fun i => (i.zero, i.size, i.bytes)) = some (some (.agg #[.string ⟨#[]⟩, .int .i64 0, .int .i64 0, .bool false, .int .i64 0, .int .i64 0, .string ⟨#[]⟩, .slice none 0 0]), 8, 96) := by kernel_rfl
theorem news8 (w : World) (a b c d e f g h : Value) (T : Nat) : ∀ j u, [a, b, c, d, e, f, g, h][j]? = some u → (w.alloc (.cells #[a, b, c, d, e, f, g, h] T)).cell? ((⟨w.heap.size, 0, none⟩ : Addr).add j) = some u :=
  World.news_of_block (cs := #[a, b, c, d, e, f, g, h]) (heap_alloc_new w _)
theorem one8 (s t : ByteArray) (a b c d : Int) (e : Bool) : ∀ u ∈ [Value.string s, .int .i64 a, .int .i64 b, .bool e, .int .i64 c, .int .i64 d, .string t, .slice none 0 0], u.oneCell' = true := by
  intro u hu; simp at hu; rcases hu with rfl | rfl | rfl | rfl | rfl | rfl | rfl | rfl <;> rfl
/-- How far the properties of an object that is new are laid. -/
structure CrL (w2 wr : World) (g0 : Nat) (mx p ow : Int) (l : List SL) (V : Value) : Prop where
  blk : wr.heap[g0]? = some (.cells (newS mx p ow g0 l V).cells 29 (0, 0))
  own : wr.ownsRow (g0 + 1) 35 8 V l.length (l.flatMap SL.cells)
  chg : Chg (fun b => b = g0) w2 wr
  nil : l = [] → V = .slice none 0 0
theorem CrL.next {w2 wr wb w9 : World} {g0 g cap n : Nat} {mx p ow : Int} {l : List SL} {V : Value} {f : SL} (h : CrL w2 wr g0 mx p ow l V) (hz : w2.heap.size = g0 + 1) (hb : Below wr.heap.size wr wb) (hn : n = l.length)
    (hown : w9.ownsRow (g0 + 1) 35 8 (.slice (some ⟨g, 0, none⟩) (n + 1) cap) (n + 1) (l.flatMap SL.cells ++ f.cells)) (hg : wb.grownBy w9 V.ownBlock) :
    CrL w2 (w9.setCell ⟨g0, 8, none⟩ (.slice (some ⟨g, 0, none⟩) (n + 1) cap)) g0 mx p ow (l ++ [f]) (.slice (some ⟨g, 0, none⟩) (n + 1) cap) := by
  have hzr := h.chg.size
  have hzb := hb.size
  have hV : ∀ b, V.ownBlock = some b → g0 + 1 ≤ b := fun b hb => (h.own.lt b hb).1
  have h9 : w9.heap[g0]? = wr.heap[g0]? := (hg.block g0 (by omega) (fun e => by have := hV g0 e.symm; omega)).trans (hb.block g0 (by omega))
  subst hn
  refine ⟨?_, ?_, ?_, fun e => by simp at e⟩
  · rw [heap_setCell_same w9 g0 8 _ _ _ (h9.trans h.blk)]
    rfl
  · rw [List.flatMap_append, List.length_append]
    have := ownsRow_same (w' := w9.setCell ⟨g0, 8, none⟩ (.slice (some ⟨g, 0, none⟩) (l.length + 1) cap)) hown (fun b hb => Below.heap_setCell _ _ _ _ (by
      have := (hown.lt b hb).1
      show b ≠ g0
      omega))
    simpa using this
  · refine h.chg.trans' (Chg.trans' (S := fun b => b = g0 ∨ V.ownBlock = some b) (S' := fun b => b = g0) ((Chg.of_below hb).trans' (b := wb) (S' := fun b => V.ownBlock = some b) ⟨hg.os, hg.tape, hg.output, hg.size, fun k hk hn => hg.block k hk (fun e => hn e.symm)⟩ fun i _ e => .inr e) (Chg.set (S := fun b => b = g0) w9 (p := ⟨g0, 8, none⟩) rfl _) fun i _ e => .inl e) ?_
    intro i hi e
    rcases e with e | e
    · exact e
    · have := hV i e
      omega
theorem CrL.at9 {w2 wr wb w9 : World} {g0 : Nat} {mx p ow : Int} {l : List SL} {V : Value} (h : CrL w2 wr g0 mx p ow l V) (hz : w2.heap.size = g0 + 1) (hb : Below wr.heap.size wr wb) (hg : wb.grownBy w9 V.ownBlock) :
    w9.heap[g0]? = some (.cells (newS mx p ow g0 l V).cells 29 (0, 0)) := by
  have hzr := h.chg.size
  have hzb := hb.size
  have hV : ∀ b, V.ownBlock = some b → g0 + 1 ≤ b := fun b hb => (h.own.lt b hb).1
  exact ((hg.block g0 (by omega) (fun e => by have := hV g0 e.symm; omega)).trans (hb.block g0 (by omega))).trans h.blk
theorem create_stepS {w w2 wr w5 : World} {B a m : Nat} {T : List OM} {mx p ow : Int} {ss : List SL} {V : Value} (h : TS w B a m T mx) (hp : p = -1 ∨ hasO (obT T) p = true) (hfew : T.length < 512) (hmm : mx + 1 < 1073741824)
    (hz : w2.heap.size = w.heap.size + 1) (ha : Chg (fun b => b = a) w w2) (ht : Tab wr B a m T (mx + 1)) (hcr : CrL w2 wr w.heap.size mx p ow ss V) (hf : ∀ s ∈ ss, FlatS s)
    (hown : w5.ownsMap Tryz.prog 3 ptrR m (T.length + 1) ((DataW.map (datT T)).put (.int .i64 (mx + 1)) (.lit (.int .i64 (w.heap.size : Int))))) (hgrow : wr.drew.grownBy w5 (some m)) : StS w w5 B a m T (T ++ [newS mx p ow w.heap.size ss V]) mx (mx + 1) := by
  have hgr : ∀ b, b < wr.heap.size → b ≠ m → w5.heap[b]? = wr.heap[b]? := fun b hb hn => hgrow.block b hb (fun e => hn (by injection e))
  have har : Chg (fun b => b = a) w wr := ha.trans' hcr.chg fun i hi e => by omega
  have hs := h.tab.sep
  rw [List.nodup_cons, List.nodup_cons] at hs
  have hlt := h.tab.lt
  have hml := hlt m (List.mem_cons_of_mem _ (List.mem_cons_self ..))
  have hBw : B ≤ w.heap.size := by
    have h1 := h.tab.base a (List.mem_cons_self ..)
    have h2 := hlt a (List.mem_cons_self ..)
    omega
  have hzr := hcr.chg.size
  have hVlt := hcr.own.lt
  refine ⟨⟨h.tab.growS w.heap.size (Nat.le_refl _) ?_ hown ?_ ?_ ?_ hfew hmm, ?_, ?_, ?_⟩, ?_, ?_⟩
  · rw [hgr a (ht.lt a (List.mem_cons_self ..)) (fun e => hs.1 (by rw [e]; exact List.mem_cons_self ..))]
    exact ht.tab
  · have hob : ObjAt wr B (newS mx p ow w.heap.size ss V) := ⟨hcr.blk, World.ownsRow_nil _ _ _ _, by
      refine ⟨hcr.own.1, ?_⟩
      rcases hcr.own.2 with h1 | ⟨g, cap, cur, e1, e2, e3⟩
      · exact .inl h1
      · exact .inr ⟨g, cap, cur, e1, by omega, e3⟩⟩
    refine hob.keep fun b hb => ?_
    have := hob.lt b hb
    refine hgr b this ?_
    rcases OM.mem_blocks.1 hb with rfl | hb | hb
    · show w.heap.size ≠ m
      omega
    · cases hb
    · have := (hVlt b hb).1
      omega
  · intro b hb
    have := (hVlt b hb).1
    exact ⟨by omega, by omega⟩
  · intro b hb
    have hbl := hlt b (List.mem_cons_of_mem _ (List.mem_cons_of_mem _ hb))
    have hbo : wr.heap[b]? = w.heap[b]? := har.block b hbl (fun e => hs.1 (by rw [← e]; exact List.mem_cons_of_mem _ hb))
    rw [hgr b (by have := har.size; omega) (fun e => hs.2.1 (by rw [← e]; exact hb))]
    exact hbo
  · rw [show obT (T ++ [newS mx p ow w.heap.size ss V]) = obT T ++ [newO mx p ow ss] from by simp [obT, newS]]
    exact h.ok.create p ow ss hp
  · intro x hx
    rcases List.mem_append.1 hx with hx | hx
    · exact h.flat x hx
    · rw [List.mem_singleton] at hx
      subst hx
      exact hf
  · intro x hx
    rcases List.mem_append.1 hx with hx | hx
    · exact h.bare x hx
    · rw [List.mem_singleton] at hx
      subst hx
      exact ⟨hcr.nil, fun _ => rfl⟩
  · refine (har.mono (S' := fun b => b ∈ a :: m :: blkT T) (fun i _ e => by rw [e]; exact List.mem_cons_self ..)).trans' (Chg.of_grown (a := wr) (g := m) ⟨hgrow.os, hgrow.tape, hgrow.output, hgrow.size, hgrow.block⟩) ?_
    rintro i _ rfl
    exact List.mem_cons_of_mem _ (List.mem_cons_self ..)
  · intro b hb
    rw [show blkT (T ++ [newS mx p ow w.heap.size ss V]) = blkT T ++ (w.heap.size :: V.ownBlock.toList) from by simp [blkT, OM.blocks, newS, Value.ownBlock]] at hb
    rcases List.mem_append.1 hb with hb | hb
    · exact .inl hb
    · rcases List.mem_cons.1 hb with rfl | hb
      · exact .inr (Nat.le_refl _)
      · have := (hVlt b (by simpa using hb)).1
        exact .inr (by omega)
end Go.Proofs.YtnphgcbknfmapaaGreatDoor
namespace Go.Proofs.YtnphgcbknfmapaaGreatDoor
open Go.RowKit Go.Lib
set_option linter.unusedVariables false

theorem newS_cells {mx p ow : Int} (how : ¬ ow = -1) (g : Nat) (l : List SL) (V : Value) : (newS mx p ow g l V).cells = #[.int .i64 (mx + 1), .int .i64 p, .int .i64 ow, .int .i64 (-1), .int .i64 0, .int .i64 0, .string ⟨#[]⟩, .slice none 0 0, V, .slice none 0 0] := by
  unfold OM.cells newS newO
  rw [if_neg how]
set_option maxRecDepth 100000 in
set_option maxHeartbeats 4000000 in
theorem create_so {w : World} {B a m : Nat} {T : List OM} {mx p : Int} {ow : Int} {x : OM} (how : ¬ ow = -1) (h : TS w B a m T mx) (hp : I64 p) (hx : findT T p = some x) (hfew : T.length < 512) (hmm : mx + 1 < 1073741824) (hsl : x.o.slots.length ≤ 1000) :
    Calls Tryz.prog 12 #[.pointer (some ⟨a, 0, none⟩), .int .i64 p, .int .i64 ow] w fun e w' => e = .returned (.tuple #[.int .i64 (mx + 1), .int .i64 0]) ∧ ∃ sv, StS w w' B a m T (T ++ [newS mx p ow w.heap.size (x.o.slots.map fun s => freshO s ow) sv]) mx (mx + 1) := by
  have H := Lib.hid h
  have hmx := h.tab.mxr
  have hhp : hasO (obT T) p = true := by unfold hasO; rw [getO_obT, hx]; rfl
  have hpn' : ¬ p = -1 := by
    rintro rfl
    rw [h.tab.neg] at hx
    cases hx
  have hpn : ((p == -1) = false) := by simpa using hpn'
  have CP := Lib.hid (has_c h.tab hp)
  rw [hhp] at CP
  have c0 := h.tab.c0
  have c1 := h.tab.c1
  have f1 := h.tab.fr 1
  have hln := fun ty => h.tab.len ty
  have hal := h.tab.lt a (List.mem_cons_self ..)
  have ht1 := h.tab.raiseS hmm
  have hl := (ht1.alloc (.cells #[.int .i64 (mx + 1), .int .i64 p, .int .i64 ow, .int .i64 (-1), .int .i64 0, .int .i64 0, .string ⟨#[]⟩, .slice none 0 0, .slice none 0 0, .slice none 0 0] 29)).look hp
  rw [ptrT_some hx] at hl
  have HT1 := Lib.hid ht1
  have hxm := (findT_some hx).1
  have how' : (ow == -1) = false := by simpa using how
  have HHP := Lib.hid hhp
  obtain ⟨A, c, hsv, hnc, hcm, hA, hcell⟩ := own_formO (h.tab.objs x hxm).slots
  have hx8 : ((w.setCell ⟨a, 1, none⟩ (.int .i64 (mx + 1))).alloc (.cells #[.int .i64 (mx + 1), .int .i64 p, .int .i64 ow, .int .i64 (-1), .int .i64 0, .int .i64 0, .string ⟨#[]⟩, .slice none 0 0, .slice none 0 0, .slice none 0 0] 29)).cell? ⟨x.g, 8, none⟩ = some (.slice A x.o.slots.length c) := by
    rw [← hsv]
    exact ((HT1.out.alloc _).objs x hxm).cell 8
  obtain ⟨i0, hi0, hz0, hz1, hz2⟩ := info_parts slot_info
  have HCL := Lib.hid hcell
  have HFL := Lib.hid (h.flat x hxm)
  have HA := Lib.hid (fun g (e : A = some ⟨g, 0, none⟩) => h.tab.lt g (List.mem_cons_of_mem _ (List.mem_cons_of_mem _ (List.mem_flatMap.2 ⟨x, hxm, OM.mem_blocks.2 (.inr (.inr (by rw [hsv, e]; rfl)))⟩))))
  obtain ⟨w2, hw2⟩ : ∃ w2, w2 = (w.setCell ⟨a, 1, none⟩ (.int .i64 (mx + 1))).alloc (.cells #[.int .i64 (mx + 1), .int .i64 p, .int .i64 ow, .int .i64 (-1), .int .i64 0, .int .i64 0, .string ⟨#[]⟩, .slice none 0 0, .slice none 0 0, .slice none 0 0] 29) := ⟨_, rfl⟩
  have HW2 := Lib.hid hw2
  have hz2w : w2.heap.size = w.heap.size + 1 := by rw [hw2]; simp [World.setCell]
  have HZ2 := Lib.hid hz2w
  have hgB : ∀ g, A = some ⟨g, 0, none⟩ → ∀ j, w2.cell? ⟨g, j, none⟩ = w.cell? ⟨g, j, none⟩ := by
    intro g e j
    have hne : g ≠ a := by
      rintro rfl
      have hs := H.out.tab.sep
      rw [List.nodup_cons] at hs
      exact hs.1 (List.mem_cons_of_mem _ (List.mem_flatMap.2 ⟨x, hxm, OM.mem_blocks.2 (.inr (.inr (by rw [hsv, e]; rfl)))⟩))
    rw [hw2]
    refine World.cell?_of_block ?_
    exact (Below.heap_alloc _ _ _ (by have := HA.out g e; simpa [World.setCell] using this)).trans (Below.heap_setCell _ _ _ _ hne)
  have HGB := Lib.hid hgB
  have hcr0 : CrL w2 w2 w.heap.size mx p ow [] (.slice none 0 0) := by
    refine ⟨?_, World.ownsRow_nil _ _ _ _, .refl _ _, fun _ => rfl⟩
    rw [hw2]
    have := heap_alloc_new (w.setCell ⟨a, 1, none⟩ (.int .i64 (mx + 1))) (.cells #[.int .i64 (mx + 1), .int .i64 p, .int .i64 ow, .int .i64 (-1), .int .i64 0, .int .i64 0, .string ⟨#[]⟩, .slice none 0 0, .slice none 0 0, .slice none 0 0] 29)
    rw [show (w.setCell ⟨a, 1, none⟩ (.int .i64 (mx + 1))).heap.size = w.heap.size from by simp [World.setCell]] at this
    rw [newS_cells how]
    exact this
  have HC0 := Lib.hid hcr0
  clear hx hhp h ht1 hcell hw2 hz2w hgB hcr0
  go_enter Tryz.func12, Tryz.ntmps12
  go_wp2_with fail
  refine CP.out.mono ?_
  rintro e w1 ⟨rfl, rfl⟩
  go_wp2_with fail
  rw [← HW2.out]
  go_loopg [70] x.o.slots.length (fun kk iv wr => ∃ (i : Nat) (V : Value), iv = .int .i64 (i : Int) ∧ i + kk = x.o.slots.length ∧ CrL w2 wr w.heap.size mx p ow ((x.o.slots.take i).map fun s => freshO s ow) V)
  case atStart => exact ⟨0, _, rfl, by omega, HC0.out⟩
  case round =>
    obtain ⟨i, V, rfl, hik, hcr⟩ := hrel
    by_cases hi : i < x.o.slots.length
    · obtain ⟨j, rfl⟩ : ∃ j, gk = j + 1 := ⟨gk - 1, by omega⟩
      obtain ⟨s, hs⟩ : ∃ s, x.o.slots[i]? = some s := ⟨x.o.slots[i], List.getElem?_eq_some_iff.2 ⟨hi, rfl⟩⟩
      have hfl := HFL.out s (List.mem_of_getElem? hs)
      have hcs := fun j (hj : j < 8) (u : Value) (hu : s.cells[j]? = some u) => HCL.out (i * 8 + j) u (by rw [slCells_at _ _ _ j hs hj]; exact hu)
      obtain ⟨g1, rfl, _⟩ := hcs 0 (by omega) _ rfl
      have hrd : ∀ j, j < 8 → ∀ u, s.cells[j]? = some u → wr.cell? ⟨g1, i * 8 + j, none⟩ = some u := by
        intro j hj u hu
        obtain ⟨g2, e, hc⟩ := hcs j hj u hu
        injection e with e
        injection e with e
        subst e
        have h1 := HA.out g1 rfl
        have h2 : w2.cell? ⟨g1, i * 8 + j, none⟩ = some u := (HGB.out g1 rfl _).trans hc
        rw [← h2]
        exact World.cell?_of_block (hcr.chg.block g1 (by rw [HZ2.out]; omega) (by omega))
      have r0 := hrd 0 (by omega) _ rfl
      rw [Nat.add_zero] at r0
      have r1 := hrd 1 (by omega) _ rfl
      have r2 := hrd 2 (by omega) _ rfl
      have r3 := hrd 3 (by omega) _ rfl
      have r4 := hrd 4 (by omega) _ rfl
      have r5 := hrd 5 (by omega) _ rfl
      have r6 := hrd 6 (by omega) _ rfl
      have r7 := hrd 7 (by omega) _ rfl
      have q2 : wr.cell? ⟨w.heap.size, 2, none⟩ = some (.int .i64 ow) := by rw [cell_of_row wr w.heap.size 2 _ _ _ hcr.blk, newS_cells how]; rfl
      have q8 : wr.cell? ⟨w.heap.size, 8, none⟩ = some V := cell_of_row wr w.heap.size 8 _ _ _ hcr.blk
      obtain ⟨l, hl⟩ : ∃ l, l = (x.o.slots.take i).map fun s => freshO s ow := ⟨_, rfl⟩
      have hll : l.length = i := by rw [hl, List.length_map, List.length_take]; omega
      obtain ⟨f, hf⟩ : ∃ f, f = freshO s ow := ⟨_, rfl⟩
      have hnext : l ++ [f] = (x.o.slots.take (i + 1)).map fun s => freshO s ow := by
        rw [hl, hf, List.take_add_one, hs, List.map_append]
        rfl
      rw [← hl] at hcr
      have FR := Lib.hid (show ∀ W, Calls Tryz.prog 46 #[.agg #[.string s.name, .int .i64 s.owner, .int .i64 s.bits, .bool s.clear, .int .i64 s.kind, .int .i64 s.num, .string s.text, .slice none 0 0], .int .i64 ow] W fun e w' => e = .returned (.agg #[.string f.name, .int .i64 f.owner, .int .i64 f.bits, .bool f.clear, .int .i64 f.kind, .int .i64 f.num, .string f.text, .slice none 0 0]) ∧ Below W.heap.size W w' from fun W => by rw [hf]; exact fresh_c s ow W hfl.1 hfl.2.1)
      have hown := hcr.own
      rw [hll] at hown
      have hzr : w.heap.size < wr.heap.size := by have := hcr.chg.size; rw [HZ2.out] at this; omega
      have HCR := Lib.hid hcr
      have HLL := Lib.hid hll
      have HNX := Lib.hid hnext
      obtain ⟨wx, hwx⟩ : ∃ wx, wx = wr.alloc (.cells #[.string s.name, .int .i64 s.owner, .int .i64 s.bits, .bool s.clear, .int .i64 s.kind, .int .i64 s.num, .string s.text, .slice none 0 0] 35) := ⟨_, rfl⟩
      have hbx : Below wr.heap.size wr wx := by rw [hwx]; exact (Below.refl _ _).alloc (Nat.le_refl _) _
      have hxz : wx.heap.size = wr.heap.size + 1 := by rw [hwx]; simp
      have hgx : wx.heap[wr.heap.size]? = some (.cells #[.string s.name, .int .i64 s.owner, .int .i64 s.bits, .bool s.clear, .int .i64 s.kind, .int .i64 s.num, .string s.text, .slice none 0 0] 35 (0, 0)) := by rw [hwx]; exact heap_alloc_new wr _
      have y0 := cell_of_row wx wr.heap.size 0 _ _ _ hgx
      have y1 := cell_of_row wx wr.heap.size 1 _ _ _ hgx
      have y2 := cell_of_row wx wr.heap.size 2 _ _ _ hgx
      have y3 := cell_of_row wx wr.heap.size 3 _ _ _ hgx
      have y4 := cell_of_row wx wr.heap.size 4 _ _ _ hgx
      have y5 := cell_of_row wx wr.heap.size 5 _ _ _ hgx
      have y6 := cell_of_row wx wr.heap.size 6 _ _ _ hgx
      have y7 := cell_of_row wx wr.heap.size 7 _ _ _ hgx
      have x2 : wx.cell? ⟨w.heap.size, 2, none⟩ = some (.int .i64 ow) := (hbx.cell (p := ⟨w.heap.size, 2, none⟩) hzr).trans q2
      have x8 : wx.cell? ⟨w.heap.size, 8, none⟩ = some V := (hbx.cell (p := ⟨w.heap.size, 8, none⟩) hzr).trans q8
      have HBX := Lib.hid hbx
      have HXZ := Lib.hid hxz
      have HWX := Lib.hid hwx
      have HOW := Lib.hid hown
      have HZR := Lib.hid hzr
      have HIC := Lib.hid (show i < 1000 from by omega)
      clear hcr hs hrd hcs hf hl hown hbx hxz hgx hfl hll hnext hwx
      go_wp2_with fail
      rw [← HWX.out]
      clear r0 r1 r2 r3 r4 r5 r6 r7 q2 q8
      go_region_law
        (first
          | (refine step_append_lies _ (by rfl) (.tmp 78) (.tmp 85) 26 (by rfl) (w.heap.size + 1) 35 i0 _ 8 96 Tryz.underlying26 hi0 hz0 hz1 hz2 rfl (by decide) V i (l.flatMap SL.cells) (by rfl) (OW8.out.alloc _) ⟨w8.heap.size, 0, none⟩ 1 1 [.string f.name, .int .i64 f.owner, .int .i64 f.bits, .bool f.clear, .int .i64 f.kind, .int .i64 f.num, .string f.text, .slice none 0 0] (by rfl) rfl (news8 _ _ _ _ _ _ _ _ _ _) (one8 _ _ _ _ _ _ _) (by decide) (by unfold maxLen; have := HIC.out; omega) (by have := HIC.out; omega) (by have := HZ8.out; simp; omega) _ rfl ?_
             intro g9 cap w9 hown9 hg9 hat hlt9
             have hr9 := HCR.out.at9 HZ2.out (BW8.out.alloc (by have := BW8.out.size; exact this) _) hg9
             have f9 : w9.frozen? ⟨w.heap.size, 8, none⟩ = false := frozen_of_row w9 _ 8 _ _ hr9
             have k9 : w9.cell? ⟨w.heap.size, 8, none⟩ = some V := cell_of_row w9 _ 8 _ _ _ hr9
             clear hr9)
          | (go_simp; go_at_call 46; refine (FR.out _).mono ?_
             rintro e w8 ⟨rfl, hb8⟩
             have HB8 := Lib.hid hb8
             have HZ8 := Lib.hid (show w.heap.size + 1 ≤ w8.heap.size from by have h1 : wx.heap.size ≤ w8.heap.size := hb8.size; have := HXZ.out; have := HZR.out; omega)
             have BW8 := Lib.hid (show Below wr.heap.size wr w8 from (HBX.out.drew).trans (hb8.mono HBX.out.drew.size))
             have OW8 := Lib.hid (show w8.ownsRow (w.heap.size + 1) 35 8 V i (l.flatMap SL.cells) from ownsRow_same HOW.out fun b hb => BW8.out.block b (HOW.out.lt b hb).2)
             have z8 : w8.cell? ⟨w.heap.size, 8, none⟩ = some V := cell_of_row w8 _ 8 _ _ _ ((BW8.out.block _ HZR.out).trans HCR.out.blk)
             have z8a : ∀ o, (w8.alloc o).cell? ⟨w.heap.size, 8, none⟩ = some V := fun o => (((Below.refl w8.heap.size w8).alloc (Nat.le_refl _) o).cell (p := ⟨w.heap.size, 8, none⟩) (by have := HZ8.out; show w.heap.size < _; omega)).trans z8
             clear hb8))
      all_goals
        go_wp2_with fail
        go_roundg j
        case measure => omega
        case rel => exact ⟨i + 1, _, by go_num, by omega, by rw [← HNX.out]; exact HCR.out.next HZ2.out (BW8.out.alloc (by have := BW8.out.size; exact this) _) HLL.out.symm hown9 hg9⟩
    · obtain rfl : i = x.o.slots.length := by omega
      rw [List.take_length] at hcr
      have hc2 : Chg (fun b => b = a) w w2 := by rw [HW2.out]; exact (Chg.set (S := fun b => b = a) w (p := ⟨a, 1, none⟩) rfl _).trans (Chg.new _ _)
      have ht2 : Tab w2 B a m T (mx + 1) := by rw [HW2.out]; exact HT1.out.alloc _
      have htr : Tab wr B a m T (mx + 1) := ht2.chg hcr.chg (fun b hb e => by have := H.out.tab.lt b hb; omega)
      have c0' := htr.c0
      have cg : wr.cell? ⟨w.heap.size, 0, none⟩ = some (.int .i64 (mx + 1)) := cell_of_row wr w.heap.size 0 _ _ _ hcr.blk
      have hzr := hcr.chg.size
      have HZR := Lib.hid hzr
      have HTR := Lib.hid htr
      have HC2 := Lib.hid hc2
      have HCR := Lib.hid hcr
      have hk1 : I64 (mx + 1) := ⟨by omega, by omega⟩
      clear hcr hc2 ht2 htr hzr hl c0 c1 f1 hln
      go_wp2_with fail
      go_still_tail 9, (by kernel_rfl)
      change wpList _ _ _ _ _ wr.drew
      refine wpList_mapUpdate_own (a := _) (o := _) _ rfl _ _ _ 82 rfl 3 81 tkeyed tmap ptrR m T.length (.map (datT T)) rfl (HTR.out.map.drew) (by unfold maxLen; omega) (.int .i64 (mx + 1)) (.pointer (some ⟨w.heap.size, 0, none⟩)) (.int .i64 (mx + 1)) rfl rfl (tkey_of hk1) (.lit (.int .i64 (w.heap.size : Int))) [] rfl ?_
      intro w5 hown5 hgrow5
      have HS := Lib.hid (create_stepS (p := p) (ow := ow) H.out (.inr HHP.out) hfew hmm HZ2.out HC2.out HTR.out HCR.out (by
        intro s hs
        obtain ⟨s', hs', rfl⟩ := List.mem_map.1 hs
        exact (HFL.out s' hs').fresh _) hown5 hgrow5)
      have cg5 : w5.cell? ⟨w.heap.size, 0, none⟩ = some (.int .i64 (mx + 1)) := by
        have hml := H.out.tab.lt m (List.mem_cons_of_mem _ (List.mem_cons_self ..))
        have hb5 : w5.heap[w.heap.size]? = wr.heap[w.heap.size]? := hgrow5.block _ (by show w.heap.size < wr.heap.size; have := HZR.out; have := HZ2.out; omega) (fun e => by injection e with e; omega)
        exact cell_of_row w5 w.heap.size 0 _ _ _ (hb5.trans HCR.out.blk)
      clear hown5 hgrow5
      go_wp2_with fail
      go_ret2
      exact ⟨rfl, _, HS.out⟩
end Go.Proofs.YtnphgcbknfmapaaGreatDoor
namespace Go.Proofs.YtnphgcbknfmapaaGreatDoor
open Go.RowKit Go.Lib
set_option linter.unusedVariables false

end Go.Proofs.YtnphgcbknfmapaaGreatDoor
namespace Go.Proofs.YtnphgcbknfmapaaGreatDoor
open Go.RowKit Go.Lib
set_option linter.unusedVariables false

section
variable {w : World} {B a m : Nat} {T : List OM} {mx o : Int} {x : OM}
end
end Go.Proofs.YtnphgcbknfmapaaGreatDoor
namespace Go.Proofs.YtnphgcbknfmapaaGreatDoor
open Go.RowKit Go.Lib
set_option linter.unusedVariables false

theorem Tab.drewN {w : World} {B a m : Nat} {T : List OM} {mx : Int} (h : Tab w B a m T mx) (k : Nat) : Tab (w.drewN k) B a m T mx := h.keep fun b _ => World.heap_drewN w k ▸ rfl
section
variable {w : World} {B a m : Nat} {T : List OM} {mx o : Int} {x : OM}
end
end Go.Proofs.YtnphgcbknfmapaaGreatDoor
namespace Go.Proofs.YtnphgcbknfmapaaGreatDoor
open Go.RowKit Go.Lib
set_option linter.unusedVariables false

theorem ownsRow_baseN {w : World} {b b' : Nat} {e : TypeId} {size : Nat} {v : Value} {n : Nat} {xs : List Value} (h : w.ownsRow b e size v n xs) (hb : b' ≤ b) : w.ownsRow b' e size v n xs := by
  refine ⟨h.1, ?_⟩
  rcases h.2 with h1 | ⟨g, cap, cur, e1, e2, e3⟩
  · exact .inl h1
  · exact .inr ⟨g, cap, cur, e1, by omega, e3⟩
theorem Tab.nodupN {w : World} {B a m : Nat} {T : List OM} {mx : Int} (h : Tab w B a m T mx) {x : OM} (hx : x ∈ T) : x.blocks.Nodup := by
  have hs := (List.nodup_cons.1 (List.nodup_cons.1 h.sep).2).2
  obtain ⟨p, q, e⟩ := List.append_of_mem hx
  rw [e, blkT_split, List.nodup_append, List.nodup_append] at hs
  exact hs.2.1.1
/-- An object's first property, laid. -/
theorem add_slot {w wb w9 w6 : World} {B a m : Nat} {T : List OM} {mx o : Int} {x : OM} {f : SL} {g9 cap : Nat} (h : TS w B a m T mx) (hx : findT T o = some x) (hbb : Below w.heap.size w wb) (hsv : x.sv = .slice none 0 0)
    (hg : wb.grownBy w9 none) (hown : w9.ownsRow w.heap.size 35 8 (.slice (some ⟨g9, 0, none⟩) 1 cap) 1 f.cells) (hb6 : Below w9.heap.size (w9.setCell ⟨x.g, 8, none⟩ (.slice (some ⟨g9, 0, none⟩) 1 cap)) w6) (hf : FlatS f) :
    StS w w6 B a m T (repT T o ⟨{ x.o with slots := [f] }, x.g, x.dv, .slice (some ⟨g9, 0, none⟩) 1 cap⟩) mx mx := by
  have hxm := (findT_some hx).1
  have hob := h.tab.objs x hxm
  have hg9 := hown.lt g9 rfl
  have hxlt := hob.lt
  have hxg : x.g < w.heap.size := hxlt x.g (OM.mem_blocks.2 (.inl rfl))
  have hzb := hbb.size
  have hz9 := hg.size
  have hBw : B ≤ w.heap.size := by
    have h1 := h.tab.base a (List.mem_cons_self ..)
    have h2 := h.tab.lt a (List.mem_cons_self ..)
    omega
  have k9 : ∀ b, b < w.heap.size → w9.heap[b]? = w.heap[b]? := fun b hb => (hg.block b (by omega) (by simp)).trans (hbb.block b hb)
  have k6 : ∀ b, b < w9.heap.size → b ≠ x.g → w6.heap[b]? = w9.heap[b]? := fun b hb hn => (hb6.block b hb).trans (Below.heap_setCell _ _ _ _ hn)
  have hx9 : x.g < w9.heap.size := by omega
  have hne9 : g9 ≠ x.g := by omega
  have hb6x : w6.heap[x.g]? = _ := hb6.block x.g hx9
  refine h.rep hx _ rfl rfl ?_ ⟨?_, ?_, ?_⟩ ?_ ?_ (by intro s hs; rw [List.mem_singleton] at hs; rw [hs]; exact hf) ⟨fun e => absurd e (by simp), (h.bare x hxm).2⟩
  · refine ⟨?_, ?_, ?_, ?_, ?_⟩
    · exact (hb6.os.trans hg.os).trans hbb.os
    · exact (hb6.tape.trans hg.tape).trans hbb.tape
    · exact (hb6.output.trans hg.output).trans hbb.output
    · have := hb6.size; simp [World.setCell] at this; omega
    · intro k hk hn
      rw [k6 k (by omega) (fun e => hn (OM.mem_blocks.2 (.inl e)))]
      exact k9 k hk
  · show w6.heap[x.g]? = _
    rw [hb6x, heap_setCell_same w9 x.g 8 _ _ _ ((k9 x.g hxg).trans hob.blk)]
    rfl
  · refine ownsRow_same hob.defs fun b hb => ?_
    have hbx := hxlt b (OM.mem_blocks.2 (.inr (.inl hb)))
    have hne : b ≠ x.g := by
      rintro rfl
      have := h.tab.nodupN hxm
      unfold OM.blocks at this
      rw [List.nodup_cons] at this
      exact this.1 (by simp [hb])
    rw [k6 b (by omega) hne]
    exact k9 b hbx
  · have : [f].flatMap SL.cells = f.cells := by simp
    show w6.ownsRow B _ 8 _ 1 ([f].flatMap SL.cells)
    rw [this]
    exact ownsRow_baseN (ownsRow_same hown fun b hb => by
      injection hb with hb
      subst hb
      exact k6 _ hg9.2 hne9) hBw
  · intro b hb
    rcases OM.mem_blocks.1 hb with h1 | h1 | h1
    · exact .inl (OM.mem_blocks.2 (.inl h1))
    · exact .inl (OM.mem_blocks.2 (.inr (.inl h1)))
    · injection h1 with h1
      rw [← h1]
      exact .inr hg9.1
  · have h0 := h.tab.nodupN hxm
    unfold OM.blocks at h0 ⊢
    rw [hsv, show (Value.slice none 0 0).ownBlock = none from rfl, Option.toList_none, List.append_nil] at h0
    rw [show (Value.slice (some ⟨g9, 0, none⟩) 1 cap).ownBlock = some g9 from rfl, Option.toList_some]
    rw [List.nodup_cons] at h0
    rw [List.nodup_cons, List.nodup_append]
    refine ⟨?_, h0.2, by simp, ?_⟩
    · intro e
      rcases List.mem_append.1 e with e | e
      · exact h0.1 e
      · rw [List.mem_singleton] at e
        exact hne9 e.symm
    · intro b hb c hc e
      rw [List.mem_singleton] at hc
      have := hxlt b (OM.mem_blocks.2 (.inr (.inl (by simpa using hb))))
      omega
theorem sbelow_setRow {B g : Nat} {w w' : World} (h : Below B w w') (hg : B ≤ g) (cs : Array Value) : Below B w (w'.setRow g cs) :=
  ⟨h.os, h.tape, h.output, by simpa [World.setRow] using h.size, fun k hk => (setRow_other w' g k cs (by omega)).trans (h.block k hk)⟩
end Go.Proofs.YtnphgcbknfmapaaGreatDoor
namespace Go.Proofs.YtnphgcbknfmapaaGreatDoor
open Go.RowKit Go.Lib
set_option linter.unusedVariables false

def layO (l : List OB) (d : Int) (f : SL) : List OB := updO l d fun y => { y with slots := [f] }
def layAll (l : List OB) (ps : List (Int × SL)) : List OB := ps.foldl (fun l p => layO l p.1 p.2) l
theorem layAll_snoc (l : List OB) (ps : List (Int × SL)) (d : Int) (f : SL) : layAll l (ps ++ [(d, f)]) = layO (layAll l ps) d f := by
  unfold layAll
  rw [List.foldl_append]
  rfl
theorem rep_lay {l : List OB} (hs : SortO l) {d : Int} {x : OB} (hx : getO l d = some x) (f : SL) : repO l d { x with slots := [f] } = layO l d f := by
  unfold repO layO updO
  apply List.map_congr_left
  intro y hy
  by_cases e : y.id = d
  · have b : (y.id == d) = true := by simpa using e
    have h2 := getO_of_mem hs hy
    rw [e, hx] at h2
    injection h2 with h2
    rw [b, if_pos rfl, if_pos rfl, h2]
  · have b : (y.id == d) = false := by simpa using e
    rw [b]
    rfl
theorem findT_rep_ne {T : List OM} {d k : Int} {x' : OM} (hid : x'.o.id = d) (h : k ≠ d) : findT (repT T d x') k = findT T k := by
  unfold findT repT
  induction T with
  | nil => rfl
  | cons y r ih =>
    rw [List.map_cons, List.find?_cons, List.find?_cons, ih]
    by_cases e : y.o.id = d
    · have b1 : (y.o.id == d) = true := by simpa using e
      have b2 : (x'.o.id == k) = false := by simp; omega
      have b3 : (y.o.id == k) = false := by simp; omega
      simp only [b1, if_true, b2, b3]
    · have b1 : (y.o.id == d) = false := by simpa using e
      simp only [b1, if_false, Bool.false_eq_true]
theorem findT_rep_eq {T : List OM} {d : Int} {x x' : OM} (hid : x'.o.id = d) (h : findT T d = some x) : findT (repT T d x') d = some x' := by
  unfold findT at h ⊢
  unfold repT
  induction T with
  | nil => cases h
  | cons y r ih =>
    rw [List.find?_cons] at h
    rw [List.map_cons, List.find?_cons]
    by_cases e : y.o.id = d
    · have b1 : (y.o.id == d) = true := by simpa using e
      have b2 : (x'.o.id == d) = true := by simpa using hid
      simp only [b1, if_true, b2]
    · have b1 : (y.o.id == d) = false := by simpa using e
      rw [b1] at h
      simp only [b1, if_false, Bool.false_eq_true]
      exact ih h
/-- How far the properties are laid. -/
structure LyI (w6 wr : World) (B a m : Nat) (T1 Tk : List OM) (mx : Int) (r : List Int) (fs : List SL) (i : Nat) : Prop where
  st : StS w6 wr B a m T1 Tk mx mx
  ob : obT Tk = layAll (obT T1) ((r.zip fs).take i)
  keep : ∀ j, i ≤ j → ∀ d, r[j]? = some d → findT Tk d = findT T1 d
  laid : ∀ k, k < i → ∀ d f, r[k]? = some d → fs[k]? = some f → ∃ y, findT Tk d = some y ∧ y.o.slots = [f]
theorem LyI.start {w6 : World} {B a m : Nat} {T1 : List OM} {mx : Int} {r : List Int} {fs : List SL} (h : TS w6 B a m T1 mx) : LyI w6 w6 B a m T1 T1 mx r fs 0 :=
  ⟨.refl h, rfl, fun _ _ _ _ => rfl, fun k hk => by omega⟩
theorem LyI.next {w6 wr wb w9 : World} {B a m : Nat} {T1 Tk : List OM} {mx : Int} {r : List Int} {fs : List SL} {i g9 cap : Nat} (h : LyI w6 wr B a m T1 Tk mx r fs i) (hn : r.Nodup) {d : Int} (hd : r[i]? = some d) {f : SL} (hf : fs[i]? = some f) {y : OM} (hy : findT Tk d = some y)
    (hsv : y.sv = .slice none 0 0) (hfl : FlatS f) (hbb : Below wr.heap.size wr wb) (hg : wb.grownBy w9 none) (hown : w9.ownsRow wr.heap.size 35 8 (.slice (some ⟨g9, 0, none⟩) 1 cap) 1 f.cells) :
    ∃ Tk', LyI w6 (w9.setCell ⟨y.g, 8, none⟩ (.slice (some ⟨g9, 0, none⟩) 1 cap)) B a m T1 Tk' mx r fs (i + 1) := by
  have hst := add_slot h.st.ts hy hbb hsv hg hown (by rw [show w9.heap.size = (w9.setCell ⟨y.g, 8, none⟩ (.slice (some ⟨g9, 0, none⟩) 1 cap)).heap.size from by simp [World.setCell]]; exact Below.refl _ _) hfl
  have hyo := (findT_some hy).2
  have hz : (r.zip fs)[i]? = some (d, f) := by rw [List.getElem?_zip_eq_some]; exact ⟨hd, hf⟩
  have hne : ∀ k e, k ≠ i → r[k]? = some e → e ≠ d := by
    rintro k e hk he rfl
    have h1 := List.getElem?_eq_some_iff.1 he
    have h2 := List.getElem?_eq_some_iff.1 hd
    exact hk ((List.getElem_inj (h₀ := h1.1) (h₁ := h2.1) hn).1 (h1.2.trans h2.2.symm))
  refine ⟨_, h.st.trans hst, ?_, ?_, ?_⟩
  · rw [obT_rep, rep_lay h.st.ts.tab.sort (by rw [getO_obT, hy]; rfl), List.take_add_one, hz, Option.toList_some, layAll_snoc, h.ob]
  · intro j hj e he
    refine (findT_rep_ne ?_ (hne j e (by omega) he)).trans (h.keep j (by omega) e he)
    exact hyo
  · intro k hk e f' he hf'
    by_cases hki : k = i
    · subst hki
      rw [hd] at he
      rw [hf] at hf'
      injection he with he
      injection hf' with hf'
      subst he
      subst hf'
      exact ⟨_, findT_rep_eq hyo hy, rfl⟩
    · obtain ⟨y', h1, h2⟩ := h.laid k (by omega) e f' he hf'
      refine ⟨y', (findT_rep_ne ?_ (hne k e hki he)).trans h1, h2⟩
      exact hyo
end Go.Proofs.YtnphgcbknfmapaaGreatDoor
namespace Go.Proofs.YtnphgcbknfmapaaGreatDoor
open Go.RowKit Go.Lib
set_option linter.unusedVariables false

end Go.Proofs.YtnphgcbknfmapaaGreatDoor
