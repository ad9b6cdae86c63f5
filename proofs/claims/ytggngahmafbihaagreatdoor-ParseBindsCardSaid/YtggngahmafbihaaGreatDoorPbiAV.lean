/- Contracts of the functions that the statement reaches, and the plain mathematics beneath: several texts joined. -/
import Derived.Test.YtggngahmafbihaaGreatDoorPbiAM
import Derived.Test.YtggngahmafbihaaGreatDoorShelf
namespace Go.Proofs.YtggngahmafbihaaGreatDoor
open Go.RowKit Go.Lib
set_option linter.unusedVariables false

/-- The keys in tree's order. -/
def tkeysL : List ByteArray := [⟨#[105, 102]⟩, ⟨#[101, 108, 115, 101, 105, 102]⟩, ⟨#[101, 108, 115, 101]⟩, ⟨#[101, 110, 100, 105, 102]⟩, ⟨#[102, 111, 114]⟩, ⟨#[105, 110]⟩, ⟨#[101, 110, 100, 102, 111, 114]⟩, ⟨#[119, 104, 105, 108, 101]⟩, ⟨#[101, 110, 100, 119, 104, 105, 108, 101]⟩, ⟨#[98, 114, 101, 97, 107]⟩, ⟨#[99, 111, 110, 116, 105, 110, 117, 101]⟩, ⟨#[114, 101, 116, 117, 114, 110]⟩, ⟨#[102, 111, 114, 107]⟩, ⟨#[101, 110, 100, 102, 111, 114, 107]⟩, ⟨#[116, 114, 121]⟩, ⟨#[101, 120, 99, 101, 112, 116]⟩, ⟨#[102, 105, 110, 97, 108, 108, 121]⟩, ⟨#[101, 110, 100, 116, 114, 121]⟩, ⟨#[97, 110, 121]⟩]
theorem tkeys_contains (x : ByteArray) : containsS (tkeysL.take 19) x = keysL.contains x := by
  have hlaw : ∀ a b : ByteArray, (a == b) = true ↔ a = b := fun a b => by
    show (a.data == b.data) = true ↔ a = b
    rw [beq_iff_eq]
    exact ⟨fun e => by cases a; cases b; simp only at e; rw [e], fun e => by rw [e]⟩
  have hp : (tkeysL.map (·.data)).Perm (keysL.map (·.data)) := List.isPerm_iff.1 (by decide +kernel)
  have hmem : ∀ y, y ∈ tkeysL ↔ y ∈ keysL := by
    intro y
    have h1 := hp.mem_iff (a := y.data)
    have key : ∀ l : List ByteArray, y.data ∈ l.map (·.data) ↔ y ∈ l := by
      intro l
      rw [List.mem_map]
      constructor
      · rintro ⟨z, h, e⟩; cases z; cases y; simp only at e; rw [← e]; exact h
      · intro h; exact ⟨y, h, rfl⟩
    rw [key, key] at h1
    exact h1
  rw [show tkeysL.take 19 = tkeysL from rfl, Bool.eq_iff_iff, containsS_iff, List.contains_iff_exists_mem_beq, hmem]
  constructor
  · intro h; exact ⟨x, h, (hlaw x x).2 rfl⟩
  · rintro ⟨y, h1, h2⟩; rw [(hlaw x y).1 h2]; exact h1

set_option maxRecDepth 100000 in
theorem tkeys_c (w : World) : Calls Tryz.prog 206 #[] w fun e w' => e = .returned (.slice (some ⟨w.heap.size, 0, none⟩) 19 19) ∧ Below w.heap.size w w' ∧ ∀ j, j < tkeysL.length → w'.cell? ⟨w.heap.size, 0 + j, none⟩ = some (.string (tkeysL.getD j ByteArray.empty)) := by
  go_enter Tryz.func206, Tryz.ntmps206
  go_wp2_with fail
  go_ret
  refine ⟨rfl, (Below.refl _ _).alloc (Nat.le_refl _) _, fun j hj => ?_⟩
  have hb := heap_alloc_new w (.cells #[.string ⟨#[105, 102]⟩, .string ⟨#[101, 108, 115, 101, 105, 102]⟩, .string ⟨#[101, 108, 115, 101]⟩, .string ⟨#[101, 110, 100, 105, 102]⟩, .string ⟨#[102, 111, 114]⟩, .string ⟨#[105, 110]⟩, .string ⟨#[101, 110, 100, 102, 111, 114]⟩, .string ⟨#[119, 104, 105, 108, 101]⟩, .string ⟨#[101, 110, 100, 119, 104, 105, 108, 101]⟩, .string ⟨#[98, 114, 101, 97, 107]⟩, .string ⟨#[99, 111, 110, 116, 105, 110, 117, 101]⟩, .string ⟨#[114, 101, 116, 117, 114, 110]⟩, .string ⟨#[102, 111, 114, 107]⟩, .string ⟨#[101, 110, 100, 102, 111, 114, 107]⟩, .string ⟨#[116, 114, 121]⟩, .string ⟨#[101, 120, 99, 101, 112, 116]⟩, .string ⟨#[102, 105, 110, 97, 108, 108, 121]⟩, .string ⟨#[101, 110, 100, 116, 114, 121]⟩, .string ⟨#[97, 110, 121]⟩] 9)
  rw [Nat.zero_add, cell_of_row _ _ j _ _ _ hb]
  have hj' : j < 19 := hj
  have : ∀ j : Fin 19, (#[.string ⟨#[105, 102]⟩, .string ⟨#[101, 108, 115, 101, 105, 102]⟩, .string ⟨#[101, 108, 115, 101]⟩, .string ⟨#[101, 110, 100, 105, 102]⟩, .string ⟨#[102, 111, 114]⟩, .string ⟨#[105, 110]⟩, .string ⟨#[101, 110, 100, 102, 111, 114]⟩, .string ⟨#[119, 104, 105, 108, 101]⟩, .string ⟨#[101, 110, 100, 119, 104, 105, 108, 101]⟩, .string ⟨#[98, 114, 101, 97, 107]⟩, .string ⟨#[99, 111, 110, 116, 105, 110, 117, 101]⟩, .string ⟨#[114, 101, 116, 117, 114, 110]⟩, .string ⟨#[102, 111, 114, 107]⟩, .string ⟨#[101, 110, 100, 102, 111, 114, 107]⟩, .string ⟨#[116, 114, 121]⟩, .string ⟨#[101, 120, 99, 101, 112, 116]⟩, .string ⟨#[102, 105, 110, 97, 108, 108, 121]⟩, .string ⟨#[101, 110, 100, 116, 114, 121]⟩, .string ⟨#[97, 110, 121]⟩] : Array Value)[j.val]? = some (.string (tkeysL.getD j.val ByteArray.empty)) := by
    intro j
    match j with
    | ⟨0, _⟩ => rfl
    | ⟨1, _⟩ => rfl
    | ⟨2, _⟩ => rfl
    | ⟨3, _⟩ => rfl
    | ⟨4, _⟩ => rfl
    | ⟨5, _⟩ => rfl
    | ⟨6, _⟩ => rfl
    | ⟨7, _⟩ => rfl
    | ⟨8, _⟩ => rfl
    | ⟨9, _⟩ => rfl
    | ⟨10, _⟩ => rfl
    | ⟨11, _⟩ => rfl
    | ⟨12, _⟩ => rfl
    | ⟨13, _⟩ => rfl
    | ⟨14, _⟩ => rfl
    | ⟨15, _⟩ => rfl
    | ⟨16, _⟩ => rfl
    | ⟨17, _⟩ => rfl
    | ⟨18, _⟩ => rfl
    | ⟨_ + 19, h⟩ => exact absurd h (by omega)
  exact this ⟨j, hj'⟩

theorem nmCh_eq (c : UInt8) : nmCh c = decide ((97 ≤ c.toNat ∧ c.toNat ≤ 122) ∨ (48 ≤ c.toNat ∧ c.toNat ≤ 57) ∨ c.toNat = 95) := by
  unfold nmCh
  rw [Bool.eq_iff_iff]
  simp only [Bool.or_eq_true, Bool.and_eq_true, decide_eq_true_eq, beq_iff_eq, UInt8.le_iff_toNat_le, ← UInt8.toNat_inj]
  constructor
  · rintro ((h | h) | h)
    · exact .inl h
    · exact .inr (.inl h)
    · exact .inr (.inr h)
  · rintro (h | h | h)
    · exact .inl (.inl h)
    · exact .inl (.inr h)
    · exact .inr h
theorem head_get (s : ByteArray) (h : 0 < s.size) : s.data.toList.getD 0 0 = s[0] := by
  rw [List.getD_eq_getElem?_getD, List.getElem?_eq_getElem (by simpa using h)]; rfl
theorem dg_eq (c : UInt8) : (decide (48 ≤ c) && decide (c ≤ 57)) = decide (48 ≤ c.toNat ∧ c.toNat ≤ 57) := by
  rw [Bool.eq_iff_iff]
  simp only [Bool.and_eq_true, decide_eq_true_eq, UInt8.le_iff_toNat_le]
  exact Iff.rfl
theorem nm_bad (s : ByteArray) (k : Nat) (hk : k < s.size) (h : nmCh s[k] = false) : nameB s = false := by
  have : s.data.toList.all nmCh = false := by
    rw [Bool.eq_false_iff]
    intro hn
    rw [List.all_eq_true] at hn
    have := hn s[k] (by show s.data[k] ∈ s.data.toList; simp)
    rw [h] at this; cases this
  unfold nameB
  rw [this]; simp
theorem nm_all (s : ByteArray) (h0 : 1 ≤ s.size) (h1 : s.size ≤ 32) (hd : ¬ (48 ≤ s[0].toNat ∧ s[0].toNat ≤ 57)) (ha : s.data.toList.all nmCh = true) : nameB s = !keysL.contains s := by
  unfold nameB
  rw [head_get s (by omega), dg_eq, ha, decide_eq_true h0, decide_eq_true h1, decide_eq_false hd]
  simp

set_option maxRecDepth 100000 in
set_option maxHeartbeats 2000000 in
theorem name_tc (s : ByteArray) (w : World) (hs : s.size ≤ 140737488351232) :
    Calls Tryz.prog 177 #[.string s] w fun e w' => e = .returned (.bool (nameB s)) ∧ Below w.heap.size w w' := by
  by_cases h0 : s.size < 1
  · have HS := Lib.hid (show nameB s = false by unfold nameB; rw [decide_eq_false (show ¬ 1 ≤ s.size by omega)]; simp)
    have q : (s.size : Int) < 1 := by omega
    clear h0
    go_enter Tryz.func177, Tryz.ntmps177
    go_wp2_with fail
    go_ret
    exact ⟨ret_bool (by rw [HS.out]), Below.refl _ _⟩
  by_cases h1 : 32 < s.size
  · have HS := Lib.hid (show nameB s = false by unfold nameB; rw [decide_eq_false (show ¬ s.size ≤ 32 by omega)]; simp)
    have q : (32 : Int) < s.size := by omega
    have q1 : ¬ ((s.size : Int) < 1) := by omega
    clear h0 h1
    go_enter Tryz.func177, Tryz.ntmps177
    go_wp2_with fail
    go_ret
    exact ⟨ret_bool (by rw [HS.out]), Below.refl _ _⟩
  have q1 : ¬ ((s.size : Int) < 1) := by omega
  have q2 : ¬ ((32 : Int) < s.size) := by omega
  have q3 : 0 < s.size := by omega
  by_cases hd : 48 ≤ s[0].toNat ∧ s[0].toNat ≤ 57
  · have HS := Lib.hid (show nameB s = false by unfold nameB; rw [head_get s q3, dg_eq, decide_eq_true hd]; simp)
    have q4 : (48 : Int) ≤ (s[0].toNat : Int) := by omega
    have q5 : (s[0].toNat : Int) ≤ 57 := by omega
    clear h0 h1 hd
    go_enter Tryz.func177, Tryz.ntmps177
    go_wp2_with fail
    go_ret
    exact ⟨ret_bool (by rw [HS.out]), Below.refl _ _⟩
  have HA := Lib.hid (nm_all s (by omega) (by omega) hd)
  have q45 : ¬ ((48 : Int) ≤ (s[0].toNat : Int)) ∨ ((48 : Int) ≤ (s[0].toNat : Int) ∧ ¬ ((s[0].toNat : Int) ≤ 57)) := by omega
  clear h0 h1 hd
  rcases q45 with q4 | ⟨q4, q5⟩
  · go_enter Tryz.func177, Tryz.ntmps177
    go_wp2_with fail
    go_loop [25] (fun i => ∃ k : Nat, k ≤ s.size ∧ i = .int .i64 k ∧ Hid ((s.data.toList.take k).all nmCh = true)) (fun i => s.size - (RowKit.intOf i).toNat)
    case atStart => exact ⟨0, Nat.zero_le _, rfl, rfl⟩
    case round =>
      obtain ⟨k, hk, rfl, hall⟩ := hrel
      by_cases hlt : k < s.size
      · have hts := Lib.hid (take_snoc s k hlt)
        have hne := Lib.hid (nmCh_eq s[k])
        have hcase : ((s[k].toNat : Int) < 97 ∧ (s[k].toNat : Int) < 48) ∨ ((s[k].toNat : Int) < 97 ∧ 48 ≤ (s[k].toNat : Int) ∧ (s[k].toNat : Int) ≤ 57) ∨ (((s[k].toNat : Int) < 97 ∧ 57 < (s[k].toNat : Int)) ∧ (s[k].toNat : Int) = 95) ∨ (((s[k].toNat : Int) < 97 ∧ 57 < (s[k].toNat : Int)) ∧ (s[k].toNat : Int) ≠ 95) ∨ (122 < (s[k].toNat : Int)) ∨ (97 ≤ (s[k].toNat : Int) ∧ (s[k].toNat : Int) ≤ 122) := by omega
        rcases hcase with ⟨g1, g2⟩ | ⟨g1, g2, g3⟩ | ⟨⟨g1, g2⟩, g3⟩ | ⟨⟨g1, g2⟩, g3⟩ | g1 | ⟨g1, g2⟩
        · have g4 := bne_yes (show (s[k].toNat : Int) ≠ 95 by omega)
          go_wp2_with fail
          go_ret
          exact ⟨ret_bool (nm_bad s k hlt (by rw [hne.out]; exact decide_eq_false (by omega))).symm, Below.refl _ _⟩
        · have g4 : ¬ ((s[k].toNat : Int) < 48) := by omega
          have g5 : ¬ (57 < (s[k].toNat : Int)) := by omega
          go_wp2_with fail
          refine ⟨⟨k + 1, by omega, by go_num, ?_⟩, by simp [RowKit.intOf]; omega⟩
          show List.all _ nmCh = true
          rw [hts.out, List.all_append, hall.out, List.all_cons, hne.out, decide_eq_true (by omega)]
          rfl
        · have g5 : ¬ ((s[k].toNat : Int) < 48) := by omega
          have g4 : ((s[k].toNat : Int) != 95) = false := by rw [g3]; rfl
          go_wp2_with fail
          refine ⟨⟨k + 1, by omega, by go_num, ?_⟩, by simp [RowKit.intOf]; omega⟩
          show List.all _ nmCh = true
          rw [hts.out, List.all_append, hall.out, List.all_cons, hne.out, decide_eq_true (by omega)]
          rfl
        · have g5 : ¬ ((s[k].toNat : Int) < 48) := by omega
          have g4 := bne_yes g3
          go_wp2_with fail
          go_ret
          exact ⟨ret_bool (nm_bad s k hlt (by rw [hne.out]; exact decide_eq_false (by omega))).symm, Below.refl _ _⟩
        · have g5 : ¬ ((s[k].toNat : Int) < 97) := by omega
          have g6 : ¬ ((s[k].toNat : Int) < 48) := by omega
          have g7 : 57 < (s[k].toNat : Int) := by omega
          have g4 := bne_yes (show (s[k].toNat : Int) ≠ 95 by omega)
          go_wp2_with fail
          go_ret
          exact ⟨ret_bool (nm_bad s k hlt (by rw [hne.out]; exact decide_eq_false (by omega))).symm, Below.refl _ _⟩
        · have g5 : ¬ ((s[k].toNat : Int) < 97) := by omega
          have g6 : ¬ (122 < (s[k].toNat : Int)) := by omega
          go_wp2_with fail
          refine ⟨⟨k + 1, by omega, by go_num, ?_⟩, by simp [RowKit.intOf]; omega⟩
          show List.all _ nmCh = true
          rw [hts.out, List.all_append, hall.out, List.all_cons, hne.out, decide_eq_true (by omega)]
          rfl
      · obtain rfl : k = s.size := by omega
        have HN := Lib.hid (show nameB s = !keysL.contains s from HA.out (by have := hall.out; rw [List.take_of_length_le (by simp)] at this; exact this))
        clear HA hall
        go_wp2_with fail
        refine (tkeys_c w).mono ?_
        rintro e w2 ⟨rfl, hb2, hk2⟩
        have HB2 := Lib.hid hb2
        have HC := Lib.hid (Tryz.slices_Contains_string w.heap.size 0 19 19 tkeysL s w2 (by decide) (by decide) hk2)
        rw [tkeys_contains] at HC
        clear hb2 hk2
        go_wp2_with fail
        refine HC.out.mono ?_
        rintro e w3 ⟨rfl, rfl⟩
        go_wp2_with fail
        go_ret
        exact ⟨ret_bool HN.out.symm, HB2.out⟩
  · go_enter Tryz.func177, Tryz.ntmps177
    go_wp2_with fail
    go_loop [25] (fun i => ∃ k : Nat, k ≤ s.size ∧ i = .int .i64 k ∧ Hid ((s.data.toList.take k).all nmCh = true)) (fun i => s.size - (RowKit.intOf i).toNat)
    case atStart => exact ⟨0, Nat.zero_le _, rfl, rfl⟩
    case round =>
      obtain ⟨k, hk, rfl, hall⟩ := hrel
      by_cases hlt : k < s.size
      · have hts := Lib.hid (take_snoc s k hlt)
        have hne := Lib.hid (nmCh_eq s[k])
        have hcase : ((s[k].toNat : Int) < 97 ∧ (s[k].toNat : Int) < 48) ∨ ((s[k].toNat : Int) < 97 ∧ 48 ≤ (s[k].toNat : Int) ∧ (s[k].toNat : Int) ≤ 57) ∨ (((s[k].toNat : Int) < 97 ∧ 57 < (s[k].toNat : Int)) ∧ (s[k].toNat : Int) = 95) ∨ (((s[k].toNat : Int) < 97 ∧ 57 < (s[k].toNat : Int)) ∧ (s[k].toNat : Int) ≠ 95) ∨ (122 < (s[k].toNat : Int)) ∨ (97 ≤ (s[k].toNat : Int) ∧ (s[k].toNat : Int) ≤ 122) := by omega
        rcases hcase with ⟨g1, g2⟩ | ⟨g1, g2, g3⟩ | ⟨⟨g1, g2⟩, g3⟩ | ⟨⟨g1, g2⟩, g3⟩ | g1 | ⟨g1, g2⟩
        · have g4 := bne_yes (show (s[k].toNat : Int) ≠ 95 by omega)
          go_wp2_with fail
          go_ret
          exact ⟨ret_bool (nm_bad s k hlt (by rw [hne.out]; exact decide_eq_false (by omega))).symm, Below.refl _ _⟩
        · have g4 : ¬ ((s[k].toNat : Int) < 48) := by omega
          have g5 : ¬ (57 < (s[k].toNat : Int)) := by omega
          go_wp2_with fail
          refine ⟨⟨k + 1, by omega, by go_num, ?_⟩, by simp [RowKit.intOf]; omega⟩
          show List.all _ nmCh = true
          rw [hts.out, List.all_append, hall.out, List.all_cons, hne.out, decide_eq_true (by omega)]
          rfl
        · have g5 : ¬ ((s[k].toNat : Int) < 48) := by omega
          have g4 : ((s[k].toNat : Int) != 95) = false := by rw [g3]; rfl
          go_wp2_with fail
          refine ⟨⟨k + 1, by omega, by go_num, ?_⟩, by simp [RowKit.intOf]; omega⟩
          show List.all _ nmCh = true
          rw [hts.out, List.all_append, hall.out, List.all_cons, hne.out, decide_eq_true (by omega)]
          rfl
        · have g5 : ¬ ((s[k].toNat : Int) < 48) := by omega
          have g4 := bne_yes g3
          go_wp2_with fail
          go_ret
          exact ⟨ret_bool (nm_bad s k hlt (by rw [hne.out]; exact decide_eq_false (by omega))).symm, Below.refl _ _⟩
        · have g5 : ¬ ((s[k].toNat : Int) < 97) := by omega
          have g6 : ¬ ((s[k].toNat : Int) < 48) := by omega
          have g7 : 57 < (s[k].toNat : Int) := by omega
          have g4 := bne_yes (show (s[k].toNat : Int) ≠ 95 by omega)
          go_wp2_with fail
          go_ret
          exact ⟨ret_bool (nm_bad s k hlt (by rw [hne.out]; exact decide_eq_false (by omega))).symm, Below.refl _ _⟩
        · have g5 : ¬ ((s[k].toNat : Int) < 97) := by omega
          have g6 : ¬ (122 < (s[k].toNat : Int)) := by omega
          go_wp2_with fail
          refine ⟨⟨k + 1, by omega, by go_num, ?_⟩, by simp [RowKit.intOf]; omega⟩
          show List.all _ nmCh = true
          rw [hts.out, List.all_append, hall.out, List.all_cons, hne.out, decide_eq_true (by omega)]
          rfl
      · obtain rfl : k = s.size := by omega
        have HN := Lib.hid (show nameB s = !keysL.contains s from HA.out (by have := hall.out; rw [List.take_of_length_le (by simp)] at this; exact this))
        clear HA hall
        go_wp2_with fail
        refine (tkeys_c w).mono ?_
        rintro e w2 ⟨rfl, hb2, hk2⟩
        have HB2 := Lib.hid hb2
        have HC := Lib.hid (Tryz.slices_Contains_string w.heap.size 0 19 19 tkeysL s w2 (by decide) (by decide) hk2)
        rw [tkeys_contains] at HC
        clear hb2 hk2
        go_wp2_with fail
        refine HC.out.mono ?_
        rintro e w3 ⟨rfl, rfl⟩
        go_wp2_with fail
        go_ret
        exact ⟨ret_bool HN.out.symm, HB2.out⟩
end Go.Proofs.YtggngahmafbihaaGreatDoor
