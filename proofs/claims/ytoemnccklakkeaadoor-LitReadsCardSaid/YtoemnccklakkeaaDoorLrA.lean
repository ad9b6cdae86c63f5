/-
  The reference's reader: its place in memory; digits.
-/
import Derived.Test.YtoemnccklakkeaaDoorNumR
namespace Go.Proofs.YtoemnccklakkeaaDoor
open Go.RowKit Go.Lib
set_option linter.unusedVariables false

/-- The reference's reader at block R: its text, its place. -/
def RrAt (w : World) (R : Nat) (s : ByteArray) (i : Nat) : Prop := w.heap[R]? = some (.cells #[.string s, .int .i64 i] 72 (0, 0))
section
variable {w w' : World} {R : Nat} {s : ByteArray} {i : Nat}
theorem RrAt.lt (h : RrAt w R s i) : R < w.heap.size := by
  rcases Nat.lt_or_ge R w.heap.size with hlt | hge
  · exact hlt
  · unfold RrAt at h; rw [Array.getElem?_eq_none hge] at h; cases h
theorem RrAt.c0 (h : RrAt w R s i) : w.cell? ⟨R, 0, none⟩ = some (.string s) := cell_of_row w R 0 _ _ _ h
theorem RrAt.c1 (h : RrAt w R s i) : w.cell? ⟨R, 1, none⟩ = some (.int .i64 i) := cell_of_row w R 1 _ _ _ h
theorem RrAt.fr (h : RrAt w R s i) (k : Nat) : w.frozen? ⟨R, k, none⟩ = false := by unfold RrAt at h; simp [World.frozen?, h]
theorem RrAt.drewN (h : RrAt w R s i) (n : Nat) : RrAt (w.drewN n) R s i := h
theorem RrAt.set1 (h : RrAt w R s i) (j : Nat) : RrAt (w.setCell ⟨R, 1, none⟩ (.int .i64 j)) R s j := by
  unfold RrAt at h ⊢; simp [World.setCell, Array.getElem?_modify, h]
end
/-- How a step of the reference's reader leaves the world. -/
structure Rrs (w w' : World) (R : Nat) (s : ByteArray) (i : Nat) : Prop where
  at_ : RrAt w' R s i
  grown : w.grownBy w' (some R)
section
variable {w w1 w2 w3 : World} {R : Nat} {s : ByteArray} {i j : Nat}
theorem Rrs.of (h : RrAt w R s i) : Rrs w w R s i := ⟨h, only_refl _ _⟩
theorem Rrs.trans (h : Rrs w1 w2 R s i) (g : Rrs w2 w3 R s j) : Rrs w1 w3 R s j := ⟨g.at_, only_trans h.grown g.grown⟩
theorem Rrs.drewN (h : Rrs w1 w2 R s i) (n : Nat) : Rrs w1 (w2.drewN n) R s i := ⟨h.at_.drewN n, only_drewN h.grown n⟩
theorem Rrs.drew (h : Rrs w1 w2 R s i) : Rrs w1 w2.drew R s i := ⟨h.at_, only_drew h.grown⟩
theorem Rrs.set1 (h : Rrs w1 w2 R s i) (j : Nat) : Rrs w1 (w2.setCell ⟨R, 1, none⟩ (.int .i64 j)) R s j := ⟨h.at_.set1 j, only_setCell h.grown (.inl rfl) _⟩
end

/-- The loop over digits, as the reference has it: the place, whether it goes on, the number. -/
def digR (s : ByteArray) (lim : Nat) (neg : Bool) (b : Nat) : Nat → Nat → Nat → Nat × Bool × Nat
  | 0, i, _ => (i, false, 0)
  | f + 1, i, a =>
    if digB (pk s i) = true then
      if (b < i ∧ a = 0) ∨ (neg = true ∧ i = b ∧ pk s i = 48) ∨ lim < 10 * a + dg1 (pk s i) then (i, false, 0)
      else digR s lim neg b f (i + 1) (10 * a + dg1 (pk s i))
    else (i, decide (b < i), a)
def digSp (s : ByteArray) (lim : Nat) (neg : Bool) (i : Nat) : Nat × Bool × Nat := digR s lim neg i (s.size + 1) i 0
/-- The number that digits hands back. -/
def digV (neg : Bool) (r : Nat × Bool × Nat) : Int := if r.2.1 then (if neg then -(r.2.2 : Int) else r.2.2) else 0

theorem digR_end {s : ByteArray} {lim : Nat} {neg : Bool} {b f i a : Nat} (h : digB (pk s i) = false) : digR s lim neg b (f + 1) i a = (i, decide (b < i), a) := by
  rw [digR, if_neg (by rw [h]; decide)]
theorem digR_bad {s : ByteArray} {lim : Nat} {neg : Bool} {b f i a : Nat} (h : digB (pk s i) = true) (hb : (b < i ∧ a = 0) ∨ (neg = true ∧ i = b ∧ pk s i = 48) ∨ lim < 10 * a + dg1 (pk s i)) : digR s lim neg b (f + 1) i a = (i, false, 0) := by
  rw [digR, if_pos h, if_pos hb]
theorem digR_step {s : ByteArray} {lim : Nat} {neg : Bool} {b f i a : Nat} (h : digB (pk s i) = true) (hb : ¬ ((b < i ∧ a = 0) ∨ (neg = true ∧ i = b ∧ pk s i = 48) ∨ lim < 10 * a + dg1 (pk s i))) : digR s lim neg b (f + 1) i a = digR s lim neg b f (i + 1) (10 * a + dg1 (pk s i)) := by
  rw [digR, if_pos h, if_neg hb]

set_option maxRecDepth 100000 in
set_option maxHeartbeats 4000000 in
theorem digits_c (R : Nat) (s : ByteArray) (i : Nat) (neg : Bool) (lim : Nat) (w : World) (h : RrAt w R s i) (hs : s.size ≤ 1000000000) (hi : i ≤ s.size) (hl9 : 9 ≤ lim) (hlim : lim ≤ 9223372036854775808) (hnl : neg = false → lim ≤ 9223372036854775807) :
    Calls Tryd.prog 89 #[.pointer (some ⟨R, 0, none⟩), .bool neg, .int .u64 lim] w fun e w' =>
      e = .returned (.tuple #[.int .i64 (digV neg (digSp s lim neg i)), .bool (digSp s lim neg i).2.1]) ∧ Rrs w w' R s (digSp s lim neg i).1 := by
  have c0 := h.c0
  have c1 := h.c1
  have HH := Lib.hid h
  have HL := Lib.hid hlim
  have HNL := Lib.hid hnl
  have HSP := Lib.hid (show digSp s lim neg i = digR s lim neg i (s.size + 1) i 0 from rfl)
  clear h hlim hnl
  go_enter Tryd.func89, Tryd.ntmps89
  go_wp2_with fail
  go_loopg [8, 10] (s.size + 1) (fun k v8 v10 wr => ∃ (a j : Nat), v8 = .int .u64 (a : Int) ∧ i ≤ j ∧ j ≤ s.size ∧ s.size + 1 + i ≤ j + k ∧ (j = i → a = 0) ∧ Hid (a ≤ lim) ∧ Hid (Rrs w wr R s j) ∧ Hid (digR s lim neg i k j a = digSp s lim neg i))
  case atStart => exact ⟨0, i, rfl, by omega, hi, by omega, fun _ => rfl, Nat.zero_le _, Rrs.of HH.out, HSP.out.symm⟩
  case round =>
    obtain ⟨a, j, rfl, hij, hj, hk, ha0, hal, hr, hq⟩ := hrel
    obtain ⟨f, rfl⟩ : ∃ f, gk = f + 1 := ⟨gk - 1, by omega⟩
    have d0 := hr.out.at_.c0
    have d1 := hr.out.at_.c1
    have e1 := hr.out.at_.fr 1
    cases hd : digB (pk s j) with
    | false =>
      have HE := Lib.hid (show digSp s lim neg i = (j, decide (i < j), a) from hq.out.symm.trans (digR_end hd))
      have hex : (¬ j < s.size) ∨ (∃ h : j < s.size, decide ((48 : Int) ≤ (s[j].toNat : Int)) = false) ∨ (∃ h : j < s.size, (48 : Int) ≤ (s[j].toNat : Int) ∧ decide ((s[j].toNat : Int) ≤ 57) = false) := by
        by_cases hjs : j < s.size
        · have hp : s[j] = pk s j := (pk_in s j hjs).symm
          unfold digB at hd
          rw [decide_eq_false_iff_not] at hd
          by_cases hlow : (pk s j).toNat < 48
          · exact .inr (.inl ⟨hjs, by rw [hp, decide_eq_false_iff_not]; omega⟩)
          · exact .inr (.inr ⟨hjs, by rw [hp]; omega, by rw [hp, decide_eq_false_iff_not]; omega⟩)
        · exact .inl hjs
      by_cases hji : j = i
      · have HD := Lib.hid (show decide (i < j) = false by rw [decide_eq_false_iff_not]; omega)
        have q1 : ((j : Int) == (i : Int)) = true := by rw [hji]; exact beq_self_eq_true _
        clear hji ha0
        rcases hex with hjs | ⟨hjs, g1⟩ | ⟨hjs, g1, g2⟩
        · have t1 : decide ((j : Int) < (s.size : Int)) = false := by rw [decide_eq_false_iff_not]; omega
          have t3 : decide (j < s.size) = false := by rw [decide_eq_false_iff_not]; omega
          have t2 : s.size ≤ j := by omega
          clear hd hjs
          go_wp2_with fail
          go_quiet (fail)
          go_wp2_with fail
          go_returns
          rw [HE.out]
          exact ⟨by rw [HD.out]; rfl, hr.out.drewN _⟩
        · have t1 : decide ((j : Int) < (s.size : Int)) = true := by rw [decide_eq_true_eq]; omega
          clear hd
          go_wp2_with fail
          go_quiet (fail)
          go_wp2_with fail
          go_returns
          rw [HE.out]
          exact ⟨by rw [HD.out]; rfl, hr.out.drewN _⟩
        · have t1 : decide ((j : Int) < (s.size : Int)) = true := by rw [decide_eq_true_eq]; omega
          clear hd
          go_wp2_with fail
          go_quiet (fail)
          go_wp2_with fail
          go_returns
          rw [HE.out]
          exact ⟨by rw [HD.out]; rfl, hr.out.drewN _⟩
      · have HD := Lib.hid (show decide (i < j) = true by rw [decide_eq_true_eq]; omega)
        have q1 : ((j : Int) == (i : Int)) = false := by rw [beq_eq_false_iff_ne]; omega
        have hz : ∃ z : Int, z = IntKind.i64.wrap (a : Int) := ⟨_, rfl⟩
        obtain ⟨z, hz⟩ := hz
        have hn : IntKind.i64.wrap (-z) = -(a : Int) := by have := hal.out; have := HL.out; rw [hz, IntKind.wrap_i64, IntKind.wrap_i64]; omega
        have hc : IntKind.i64.wrap (a : Int) = z := hz.symm
        have HZP := Lib.hid (show a ≤ 9223372036854775807 → z = (a : Int) by intro ha; rw [hz, IntKind.wrap_i64]; omega)
        clear hz hji ha0
        cases neg with
        | true =>
          rcases hex with hjs | ⟨hjs, g1⟩ | ⟨hjs, g1, g2⟩
          · have t1 : decide ((j : Int) < (s.size : Int)) = false := by rw [decide_eq_false_iff_not]; omega
            have t3 : decide (j < s.size) = false := by rw [decide_eq_false_iff_not]; omega
            have t2 : s.size ≤ j := by omega
            clear hd hjs
            go_wp2_with fail
            go_quiet (fail)
            go_wp2_with fail
            go_returns
            rw [HE.out, HD.out]
            exact ⟨rfl, hr.out.drewN _⟩
          · have t1 : decide ((j : Int) < (s.size : Int)) = true := by rw [decide_eq_true_eq]; omega
            clear hd
            go_wp2_with fail
            go_quiet (fail)
            go_wp2_with fail
            go_returns
            rw [HE.out, HD.out]
            exact ⟨rfl, hr.out.drewN _⟩
          · have t1 : decide ((j : Int) < (s.size : Int)) = true := by rw [decide_eq_true_eq]; omega
            clear hd
            go_wp2_with fail
            go_quiet (fail)
            go_wp2_with fail
            go_returns
            rw [HE.out, HD.out]
            exact ⟨rfl, hr.out.drewN _⟩
        | false =>
          have hza := HZP.out (by have := hal.out; have := HNL.out rfl; omega)
          rw [hza] at hc
          clear hn hza
          rcases hex with hjs | ⟨hjs, g1⟩ | ⟨hjs, g1, g2⟩
          · have t1 : decide ((j : Int) < (s.size : Int)) = false := by rw [decide_eq_false_iff_not]; omega
            have t3 : decide (j < s.size) = false := by rw [decide_eq_false_iff_not]; omega
            have t2 : s.size ≤ j := by omega
            clear hd hjs
            go_wp2_with fail
            go_quiet (fail)
            go_wp2_with fail
            go_returns
            rw [HE.out, HD.out]
            exact ⟨rfl, hr.out.drewN _⟩
          · have t1 : decide ((j : Int) < (s.size : Int)) = true := by rw [decide_eq_true_eq]; omega
            clear hd
            go_wp2_with fail
            go_quiet (fail)
            go_wp2_with fail
            go_returns
            rw [HE.out, HD.out]
            exact ⟨rfl, hr.out.drewN _⟩
          · have t1 : decide ((j : Int) < (s.size : Int)) = true := by rw [decide_eq_true_eq]; omega
            clear hd
            go_wp2_with fail
            go_quiet (fail)
            go_wp2_with fail
            go_returns
            rw [HE.out, HD.out]
            exact ⟨rfl, hr.out.drewN _⟩
    | true =>
      have hjs : j < s.size := digB_in hd
      have hrg := digB_range hd
      have hp : s[j] = pk s j := (pk_in s j hjs).symm
      have t1 : decide ((j : Int) < (s.size : Int)) = true := by rw [decide_eq_true_eq]; omega
      have t2 : (48 : Int) ≤ (s[j].toNat : Int) := by rw [hp]; omega
      have t3 : (s[j].toNat : Int) ≤ 57 := by rw [hp]; omega
      obtain ⟨d, hdd⟩ : ∃ d, d = dg1 (pk s j) := ⟨_, rfl⟩
      have hd9 : d ≤ 9 := by rw [hdd, dg1_eq]; omega
      have hw2 : IntKind.u8.wrap (((s[j]).toNat : Int) - 48) = (d : Int) := by rw [hp, IntKind.wrap_u8, hdd, dg1_eq]; omega
      have hw3 : IntKind.u64.wrap (d : Int) = (d : Int) := by rw [IntKind.wrap_u64]; omega
      have hw4 : IntKind.u64.wrap ((lim : Int) - (d : Int)) = ((lim - d : Nat) : Int) := by have := HL.out; rw [IntKind.wrap_u64]; omega
      have hw8 : IntKind.u64.wrap (((lim - d : Nat) : Int) / 10) = ((lim - d : Nat) : Int) / 10 := by have := HL.out; rw [IntKind.wrap_u64]; omega
      have hd0 : d = 0 ↔ pk s j = 48 := by
        rw [hdd, dg1_eq]
        constructor
        · intro e; exact UInt8.toNat_inj.1 (by show (pk s j).toNat = 48; omega)
        · intro e; rw [e]; rfl
      have BAD := Lib.hid (fun (hb : (i < j ∧ a = 0) ∨ (neg = true ∧ j = i ∧ d = 0) ∨ lim < 10 * a + d) => show digSp s lim neg i = (j, false, 0) from hq.out.symm.trans (digR_bad hd (by rw [← hdd, ← hd0]; exact hb)))
      have STP := Lib.hid (fun (hb : ¬ ((i < j ∧ a = 0) ∨ (neg = true ∧ j = i ∧ d = 0) ∨ lim < 10 * a + d)) => show digR s lim neg i f (j + 1) (10 * a + d) = digSp s lim neg i by rw [← hq.out, digR_step hd (by rw [← hdd, ← hd0]; exact hb), hdd])
      have WR6 := Lib.hid (fun (hb : 10 * a + d ≤ lim) => show IntKind.u64.wrap (10 * (a : Int)) = 10 * (a : Int) ∧ IntKind.u64.wrap (10 * (a : Int) + (d : Int)) = ((10 * a + d : Nat) : Int) by have := HL.out; rw [IntKind.wrap_u64, IntKind.wrap_u64]; omega)
      clear hp hrg hdd hd0 hd
      by_cases hji : j = i
      · have q0 : decide ((i : Int) < (j : Int)) = false := by rw [decide_eq_false_iff_not]; omega
        have q1 : ((j : Int) == (i : Int)) = true := by rw [hji]; exact beq_self_eq_true _
        have haz := ha0 hji
        have q3 : (a : Int) ≤ ((lim - d : Nat) : Int) / 10 := by omega
        have q5 : decide (i < j) = false := by rw [decide_eq_false_iff_not]; omega
        cases neg with
        | true =>
          by_cases hdz : d = 0
          · have HB := Lib.hid (BAD.out (.inr (.inl ⟨rfl, hji, hdz⟩)))
            have q2 : ((d : Int) == 0) = true := by rw [hdz]; rfl
            clear hdz haz hji ha0 STP WR6 BAD
            go_wp2_with fail
            go_quiet (fail)
            go_wp2_with fail
            go_quiet (fail)
            go_wp2_with fail
            go_returns
            rw [HB.out]
            exact ⟨rfl, hr.out.drewN _⟩
          · have hnb : ¬ ((i < j ∧ a = 0) ∨ (true = true ∧ j = i ∧ d = 0) ∨ lim < 10 * a + d) := by rintro (h | h | h) <;> omega
            have q2 : ((d : Int) == 0) = false := by rw [beq_eq_false_iff_ne]; omega
            have HST := Lib.hid (STP.out hnb)
            have HAL := Lib.hid (show 10 * a + d ≤ lim by omega)
            obtain ⟨hw6, hw7⟩ := WR6.out HAL.out
            clear hdz haz hji ha0 STP WR6 BAD hnb
            go_wp2_with fail
            go_quiet (fail)
            go_wp2_with fail
            go_quiet (fail)
            go_wp2_with fail
            go_roundg f
            case measure => omega
            case rel => exact ⟨10 * a + d, j + 1, rfl, by omega, by omega, by omega, fun e => by omega, HAL, by first | exact (hr.out.drewN _).set1 (j + 1) | exact (hr.out.set1 (j + 1)).drewN _, HST⟩
        | false =>
          have hnb : ¬ ((i < j ∧ a = 0) ∨ (false = true ∧ j = i ∧ d = 0) ∨ lim < 10 * a + d) := by rintro (h | h | h) <;> first | omega | cases h.1
          have HST := Lib.hid (STP.out hnb)
          have HAL := Lib.hid (show 10 * a + d ≤ lim by omega)
          obtain ⟨hw6, hw7⟩ := WR6.out HAL.out
          clear haz hji ha0 STP WR6 BAD hnb
          go_wp2_with fail
          go_quiet (fail)
          go_wp2_with fail
          go_quiet (fail)
          go_wp2_with fail
          go_roundg f
          case measure => omega
          case rel => exact ⟨10 * a + d, j + 1, rfl, by omega, by omega, by omega, fun e => by omega, HAL, by first | exact (hr.out.drewN _).set1 (j + 1) | exact (hr.out.set1 (j + 1)).drewN _, HST⟩
      · have q0 : decide ((i : Int) < (j : Int)) = true := by rw [decide_eq_true_eq]; omega
        have q1 : ((j : Int) == (i : Int)) = false := by rw [beq_eq_false_iff_ne]; omega
        have q5 : decide (i < j) = true := by rw [decide_eq_true_eq]; omega
        by_cases haz : a = 0
        · have HB := Lib.hid (BAD.out (.inl ⟨by omega, haz⟩))
          have q2 : ((a : Int) == 0) = true := by rw [haz]; rfl
          clear haz hji ha0 STP WR6 BAD
          go_wp2_with fail
          go_quiet (fail)
          go_wp2_with fail
          go_quiet (fail)
          go_wp2_with fail
          go_returns
          rw [HB.out]
          exact ⟨rfl, hr.out.drewN _⟩
        · have q2 : ((a : Int) == 0) = false := by rw [beq_eq_false_iff_ne]; omega
          by_cases hbig : lim < 10 * a + d
          · have HB := Lib.hid (BAD.out (.inr (.inr hbig)))
            have q3 : ((lim - d : Nat) : Int) / 10 < (a : Int) := by omega
            clear haz hji ha0 STP WR6 BAD hbig
            cases neg
            all_goals
              go_wp2_with fail
              go_quiet (fail)
              go_wp2_with fail
              go_quiet (fail)
              go_wp2_with fail
              go_returns
              rw [HB.out]
              exact ⟨rfl, hr.out.drewN _⟩
          · have hnb : ¬ ((i < j ∧ a = 0) ∨ (neg = true ∧ j = i ∧ d = 0) ∨ lim < 10 * a + d) := by rintro (h | h | h) <;> omega
            have q3 : (a : Int) ≤ ((lim - d : Nat) : Int) / 10 := by omega
            have HST := Lib.hid (STP.out hnb)
            have HAL := Lib.hid (show 10 * a + d ≤ lim by omega)
            obtain ⟨hw6, hw7⟩ := WR6.out HAL.out
            clear haz hji ha0 STP WR6 BAD hbig hnb
            cases neg
            all_goals
              go_wp2_with fail
              go_quiet (fail)
              go_wp2_with fail
              go_quiet (fail)
              go_wp2_with fail
              go_roundg f
              case measure => omega
              case rel => exact ⟨10 * a + d, j + 1, rfl, by omega, by omega, by omega, fun e => by omega, HAL, by first | exact (hr.out.drewN _).set1 (j + 1) | exact (hr.out.set1 (j + 1)).drewN _, HST⟩
end Go.Proofs.YtoemnccklakkeaaDoor
