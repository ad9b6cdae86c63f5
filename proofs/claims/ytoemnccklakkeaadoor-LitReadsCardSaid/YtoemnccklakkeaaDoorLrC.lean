/-
  The reference's reader: quoted.
-/
import Derived.Test.YtoemnccklakkeaaDoorLrB
namespace Go.Proofs.YtoemnccklakkeaaDoor
open Go.RowKit Go.Lib
set_option linter.unusedVariables false

theorem Rrs.alloc {w1 w2 : World} {R : Nat} {s : ByteArray} {i : Nat} (h : Rrs w1 w2 R s i) (o : Obj) : Rrs w1 (w2.alloc o) R s i :=
  ⟨(Below.heap_alloc w2 o R h.at_.lt).trans h.at_, ⟨h.grown.os, h.grown.tape, h.grown.output, Nat.le_trans h.grown.size (by simp), fun k hk hne => (Below.heap_alloc w2 o k (Nat.lt_of_lt_of_le hk h.grown.size)).trans (h.grown.block k hk hne)⟩⟩
theorem Rrs.append {w1 w2 w3 : World} {R : Nat} {s : ByteArray} {i : Nat} {row : Option Nat} (h : Rrs w1 w2 R s i) (hg : w2.grownBy w3 row) (hR : R < w1.heap.size) (hr : ∀ k, row = some k → w1.heap.size ≤ k) : Rrs w1 w3 R s i :=
  ⟨(hg.block R h.at_.lt (fun e => by have := hr R e.symm; omega)).trans h.at_,
   ⟨hg.os.trans h.grown.os, hg.tape.trans h.grown.tape, hg.output.trans h.grown.output, Nat.le_trans h.grown.size hg.size,
    fun k hk hne => (hg.block k (Nat.lt_of_lt_of_le hk h.grown.size) (fun e => by have := hr k e.symm; omega)).trans (h.grown.block k hk hne)⟩⟩
theorem Rrs.far {w1 w2 : World} {R : Nat} {s : ByteArray} {i : Nat} (h : Rrs w1 w2 R s i) {p : Addr} (hp : w1.heap.size ≤ p.block) (hR : R < w1.heap.size) (u : Value) : Rrs w1 (w2.setCell p u) R s i :=
  ⟨(Below.heap_setCell w2 p u R (by omega)).trans h.at_, only_setCell h.grown (.inr hp) u⟩
theorem Rrs.far4 {w1 w2 : World} {R : Nat} {s : ByteArray} {i : Nat} (h : Rrs w1 w2 R s i) {g : Nat} (hp : w1.heap.size ≤ g) (hR : R < w1.heap.size) (a b c d : Value) :
    Rrs w1 ((((w2.setCell ⟨g, 0, none⟩ a).setCell ⟨g, 1, none⟩ b).setCell ⟨g, 2, none⟩ c).setCell ⟨g, 3, none⟩ d) R s i :=
  (((h.far (p := ⟨g, 0, none⟩) hp hR a).far (p := ⟨g, 1, none⟩) hp hR b).far (p := ⟨g, 2, none⟩) hp hR c).far (p := ⟨g, 3, none⟩) hp hR d

/-- What a call of the reference's reader is to show. -/
def PRef (w : World) (R : Nat) (s : ByteArray) (r : Nat × Bool × VL) (e : Ending) (w' : World) : Prop :=
  ∃ (k n : Int) (t : ByteArray) (sa : Option Addr) (l sc : Nat), e = .returned (.tuple #[.agg #[.int .i64 k, .int .i64 n, .string t, .slice sa l sc], .bool r.2.1]) ∧ Rrs w w' R s r.1 ∧
    (r.2.1 = true → ∃ sub : VL, r.2.2 = val1 k n t sub ∧ l = sub.len ∧ sub.len ≤ sc ∧ RpL w' (fun b => w.heap.size ≤ b ∧ b < w'.heap.size) sub sa)
theorem PRef.bad {w w6 : World} {R : Nat} {s : ByteArray} {r : Nat × Bool × VL} (h : r.2.1 = false) (hr : Rrs w w6 R s r.1) (hRl : R < w.heap.size) :
    PRef w R s r (.returned (.tuple #[.agg #[.int .i64 0, .int .i64 0, .string ⟨#[]⟩, .slice none 0 0], .bool false])) ((((w6.setCell ⟨w.heap.size, 0, none⟩ (.int .i64 0)).setCell ⟨w.heap.size, 1, none⟩ (.int .i64 0)).setCell ⟨w.heap.size, 2, none⟩ (.string ⟨#[]⟩)).setCell ⟨w.heap.size, 3, none⟩ (.slice none 0 0)) :=
  ⟨0, 0, ⟨#[]⟩, none, 0, 0, by rw [h], hr.far4 (Nat.le_refl _) hRl _ _ _ _, fun e => by rw [h] at e; cases e⟩
theorem PRef.mk4 {w w6 : World} {R : Nat} {s : ByteArray} {r : Nat × Bool × VL} {k n : Int} {t : ByteArray} {b : Bool} (hb : r.2.1 = b) (hr : Rrs w w6 R s r.1) (hRl : R < w.heap.size) (hv : r.2.2 = val1 k n t .nil) :
    PRef w R s r (.returned (.tuple #[.agg #[.int .i64 k, .int .i64 n, .string t, .slice none 0 0], .bool b])) ((((w6.setCell ⟨w.heap.size, 0, none⟩ (.int .i64 k)).setCell ⟨w.heap.size, 1, none⟩ (.int .i64 n)).setCell ⟨w.heap.size, 2, none⟩ (.string t)).setCell ⟨w.heap.size, 3, none⟩ (.slice none 0 0)) :=
  ⟨k, n, t, none, 0, 0, by rw [hb], hr.far4 (Nat.le_refl _) hRl _ _ _ _, fun _ => ⟨.nil, hv, rfl, Nat.le_refl _, trivial⟩⟩

/-- A text in quotes, as a value. -/
def quoSp (s : ByteArray) (i : Nat) : Nat × Bool × VL := ((strSp s i).1, (strSp s i).2.1, val1 2 0 ⟨(strSp s i).2.2.toArray⟩ .nil)
theorem quoSp_bad {s : ByteArray} {i j : Nat} {l : List UInt8} (h : strLoop s (s.size + 1) (i + 1) [] = (j, false, l)) : (quoSp s i).2.1 = false ∧ (quoSp s i).1 = j := by
  unfold quoSp strSp; simp [h]
theorem quoSp_ok {s : ByteArray} {i j : Nat} {l : List UInt8} (h : strLoop s (s.size + 1) (i + 1) [] = (j, true, l)) : quoSp s i = (j + 1, true, val1 2 0 ⟨l.toArray⟩ .nil) := by
  unfold quoSp strSp; simp [h]

set_option maxRecDepth 100000 in
set_option maxHeartbeats 4000000 in
theorem quoted_c (R : Nat) (s : ByteArray) (i : Nat) (w : World) (h : RrAt w R s i) (hs : s.size ≤ 1000000000) (hi : i < s.size) :
    Calls Tryd.prog 68 #[.pointer (some ⟨R, 0, none⟩)] w (PRef w R s (quoSp s i)) := by
  obtain ⟨i0, hi0, hz0, hz1, hz2⟩ := info_parts u8_info
  have hRl := h.lt
  have c1 := h.c1
  have cf := h.fr 1
  obtain ⟨wa, hwa⟩ : ∃ wa, wa = (w.setCell ⟨R, 1, none⟩ (.int .i64 ((i : Int) + 1))).alloc (.cells #[.int .i64 0, .int .i64 0, .string ⟨#[]⟩, .slice none 0 0] 31) := ⟨_, rfl⟩
  have HA := Lib.hid (show Rrs w wa R s (i + 1) by rw [hwa]; exact ((Rrs.of h).set1 (i + 1)).alloc _)
  have HB2 := Lib.hid (show StB wa w.heap.size (.int .i64 0) (.int .i64 0) (.string ⟨#[]⟩) (.slice none 0 0) by
    rw [hwa]; have := StB.new (w.setCell ⟨R, 1, none⟩ (.int .i64 ((i : Int) + 1))) (.int .i64 0) (.int .i64 0) (.string ⟨#[]⟩) (.slice none 0 0)
    rw [show (w.setCell ⟨R, 1, none⟩ (.int .i64 ((i : Int) + 1))).heap.size = w.heap.size by simp [World.setCell]] at this; exact this)
  have HZA := Lib.hid (show wa.heap.size = w.heap.size + 1 by rw [hwa]; simp [World.setCell])
  have HW := Lib.hid hwa
  clear hwa h
  go_enter Tryd.func68, Tryd.ntmps68
  go_wp2_with fail
  rw [← HW.out]
  go_loopg [4, 5] (s.size + 1) (fun k b v5 wr => ∃ (bv : Value) (j : Nat) (l : List UInt8), bv = b ∧ wr.ownsRow (w.heap.size + 1) 5 1 bv l.length (u8s l) ∧ l.length ≤ j ∧ Rrs w wr R s j ∧ StB wr w.heap.size (.int .i64 0) (.int .i64 0) (.string ⟨#[]⟩) (.slice none 0 0) ∧ w.heap.size + 1 ≤ wr.heap.size ∧ j ≤ s.size ∧ s.size + 1 + (i + 1) ≤ j + k ∧
    Hid (strLoop s k j l = strLoop s (s.size + 1) (i + 1) []))
  case atStart => exact ⟨.slice none 0 0, i + 1, [], rfl, World.ownsRow_nil _ _ _ _, Nat.zero_le _, HA.out, HB2.out, by have := HZA.out; omega, by omega, by omega, rfl⟩
  case round =>
    obtain ⟨bv, j, l, rfl, hown, hll, hr, hsb, hwz, hj, hk, hqq⟩ := hrel
    obtain ⟨f, rfl⟩ : ∃ f, gk = f + 1 := ⟨gk - 1, by omega⟩
    have hrj := hr.at_
    have d0 := hrj.c0
    have d1 := hrj.c1
    have df := hrj.fr 1
    have HR := Lib.hid hr
    have HS := Lib.hid hsb
    have HO := Lib.hid hown
    have k0 := hsb.c0; have k1 := hsb.c1; have k2 := hsb.c2; have k3 := hsb.c3
    have f0 := hsb.fr 0; have f1 := hsb.fr 1; have f2 := hsb.fr 2; have f3 := hsb.fr 3
    clear hr hown hsb hrj c1 cf
    by_cases hjs : j < s.size
    · have hp : s[j] = pk s j := (pk_in s j hjs).symm
      have t1 : decide ((j : Int) < (s.size : Int)) = true := by rw [decide_eq_true_eq]; omega
      have t2 : ¬ s.size ≤ j := by omega
      by_cases h34 : pk s j = 34
      · have HQ := Lib.hid (quoSp_ok (hqq.out.symm.trans (strLoop_end s f j l h34)))
        have q34 : ((s[j].toNat : Int) != 34) = false := by rw [hp, h34]; rfl
        have hcv := fun n => conv_text ((wr.drewN n).setCell ⟨R, 1, none⟩ (.int .i64 ((j : Int) + 1))) (w.heap.size + 1) bv l (own_set (W := wr.drewN n) HO.out (by omega) 1)
        clear hp h34
        go_wp2_with fail
        go_quiet (fail)
        go_wp2_with fail
        go_quiet (fail)
        go_wp2_with fail
        refine (refS_c _ _).mono ?_
        rintro e w3 ⟨rfl, hw3⟩
        have hr3 : Rrs w w3 R s (j + 1) := by rw [← hw3]; exact ((HR.out.set1 (j + 1)).drewN _).alloc _
        have hs3 : StB w3 w.heap.size (.int .i64 0) (.int .i64 0) (.string ⟨#[]⟩) (.slice none 0 0) := by rw [← hw3]; exact (((HS.out.far (p := ⟨R, 1, none⟩) (by show w.heap.size ≠ R; omega) (.int .i64 ((j : Int) + 1))).drewN _).alloc _)
        have HR3 := Lib.hid hr3
        have HS3 := Lib.hid hs3
        clear hw3 hcv k0 k1 k2 k3 f0 f1 f2 f3 d0 d1 df
        have k0 := hs3.c0; have k1 := hs3.c1; have k2 := hs3.c2; have k3 := hs3.c3
        have f0 := hs3.fr 0; have f1 := hs3.fr 1; have f2 := hs3.fr 2; have f3 := hs3.fr 3
        clear hr3 hs3
        go_wp2_with fail
        refine ret_cell4_tmp Tryd.results68 w.heap.size rfl rfl (HS3.out.set4 _ _ _ _) ?_
        rw [HQ.out]
        exact PRef.mk4 rfl HR3.out hRl rfl
      have q34 : ((s[j].toNat : Int) != 34) = true := by rw [hp]; exact (ne_byte 34 34 rfl h34).2
      by_cases h92 : pk s j = 92
      · have q92 : ((s[j].toNat : Int) == 92) = true := by rw [hp, h92]; rfl
        have g1 : IntKind.i64.wrap ((j : Int) + 1) = (j : Int) + 1 := IntWalk.i64_in _ ⟨by omega, by omega⟩
        have g2 : (0 : Int) ≤ (j : Int) + 1 := by omega
        have g3 : ((j : Int) + 1).toNat = j + 1 := by omega
        by_cases hj1 : j + 1 < s.size
        · have hp1 : s[j + 1] = pk s (j + 1) := (pk_in s (j + 1) hj1).symm
          have t3 : decide ((s.size : Int) ≤ (j : Int) + 1) = false := by rw [decide_eq_false_iff_not]; omega
          have t4 : ¬ s.size ≤ j + 1 := by omega
          have t5 : ((j : Int) + 1 : Int) < (s.size : Int) := by omega
          by_cases hy : pk s (j + 1) = 34 ∨ pk s (j + 1) = 92
          · have HE := Lib.hid (strLoop_esc s f j l h92 hy)
            rw [← hp1] at HE
            have r1 : (32 : Int) ≤ (s[j + 1].toNat : Int) := by rw [hp1]; rcases hy with e | e <;> rw [e] <;> decide
            have r2 : (s[j + 1].toNat : Int) ≤ 126 := by rw [hp1]; rcases hy with e | e <;> rw [e] <;> decide
            have yy : ((s[j + 1].toNat : Int) != 34) = false ∨ (((s[j + 1].toNat : Int) != 34) = true ∧ ((s[j + 1].toNat : Int) != 92) = false) := by
              rw [hp1]
              rcases hy with e | e
              · rw [e]; exact .inl rfl
              · rw [e]; exact .inr ⟨rfl, rfl⟩
            clear hp h34 h92 hp1 hy
            rcases yy with yy | ⟨yy1, yy2⟩
            all_goals
              go_wp2_with fail
              go_quiet (fail)
              revert nq; intro n1
              go_wp2_with fail
              go_quiet (fail)
              revert nq; intro n2
              go_wp2_with fail
              go_quiet (fail)
              revert nq; intro n3
              clear g1
              go_wp2_with fail
              go_quiet (fail)
              obtain ⟨w3, hw3⟩ : ∃ w3, w3 = (((wr.drewN (n1 + n2 + n3)).setCell ⟨R, 1, none⟩ (.int .i64 ((j : Int) + 1))).drewN nq) := ⟨_, rfl⟩
              rw [← hw3]
              have HR3 := Lib.hid (show Rrs w w3 R s (j + 1) by rw [hw3]; exact ((HR.out.drewN _).set1 (j + 1)).drewN _)
              have HS3 := Lib.hid (show StB w3 w.heap.size (.int .i64 0) (.int .i64 0) (.string ⟨#[]⟩) (.slice none 0 0) by rw [hw3]; exact ((HS.out.drewN _).far (p := ⟨R, 1, none⟩) (by show w.heap.size ≠ R; omega) (.int .i64 ((j : Int) + 1))).drewN _)
              have HO3 := Lib.hid (show w3.ownsRow (w.heap.size + 1) 5 1 bv l.length (u8s l) by rw [hw3]; exact own_set (W := wr.drewN (n1 + n2 + n3)) HO.out (by omega) 1)
              have HZ3 := Lib.hid (show w.heap.size + 1 ≤ w3.heap.size by rw [hw3]; simp [World.setCell]; exact hwz)
              clear hw3 k0 k1 k2 k3 f0 f1 f2 f3 d0 d1 df
              go_wp2_with (at_builtin; refine wpList_append_own _ rfl (.tmp 117) (.tmp 119) 109 rfl (w.heap.size + 1) 5 i0 (.int .u8 0) 1 1 Tryd.underlying109 hi0 hz0 hz1 hz2 rfl (by decide) bv l.length (u8s l) rfl (HO3.out.alloc _) ⟨w3.heap.size, 0, none⟩ 1 1 [.int .u8 (s[j + 1]).toNat] rfl rfl ?c1 ?c2 ?c3 ?c4 ?c5 ?_
                           case c1 => exact cell_one_new _ _ _
                           case c2 => intro u hu; simp at hu; subst hu; rfl
                           case c3 => unfold maxLen; omega
                           case c4 => omega
                           case c5 => have := HZ3.out; simp; omega
                           intro v' w11 hown' hgrow _
                           have hr11 := Rrs.append (HR3.out.alloc (.cells #[.int .u8 (s[j + 1]).toNat] 5)) hgrow hRl (fun k hk => by have := own_ge HO3.out k hk; omega)
                           have hs11 := (HS3.out.alloc (.cells #[.int .u8 (s[j + 1]).toNat] 5)).only hgrow (fun e => by have := own_ge HO3.out _ e.symm; omega)
                           have q0 := hr11.at_.c0
                           have q1 := hr11.at_.c1
                           have q2 := hr11.at_.fr 1
                           have HR11 := Lib.hid hr11
                           have HS11 := Lib.hid (hs11.far (p := ⟨R, 1, none⟩) (by show w.heap.size ≠ R; omega) (.int .i64 (((j + 1) + 1 : Nat) : Int)))
                           have HZ11 := Lib.hid hgrow.size
                           have HO11 := Lib.hid (own_snoc hown')
                           clear hr11 hs11 hown' hgrow)
              go_roundg f
              case measure => omega
              case rel => exact ⟨v', (j + 1) + 1, l ++ [s[j + 1]], rfl, own_set HO11.out (by omega) 1, by simp; omega, HR11.out.set1 ((j + 1) + 1), HS11.out, by have := HZ11.out; have := HZ3.out; simp [World.setCell] at *; omega, by omega, by omega, HE.out.symm.trans hqq.out⟩
          · have HQ := Lib.hid (quoSp_bad (hqq.out.symm.trans (strLoop_esc_bad s f j l h92 hy)))
            have y1 : ((s[j + 1].toNat : Int) != 34) = true := by rw [hp1]; exact (ne_byte 34 34 rfl (fun e => hy (.inl e))).2
            have y2 : ((s[j + 1].toNat : Int) != 92) = true := by rw [hp1]; exact (ne_byte 92 92 rfl (fun e => hy (.inr e))).2
            clear hp h34 h92 hp1 hy
            go_wp2_with fail
            go_quiet (fail)
            go_wp2_with fail
            go_quiet (fail)
            go_wp2_with fail
            go_quiet (fail)
            clear g1
            go_wp2_with fail
            refine ret_cell4_tmp Tryd.results68 w.heap.size rfl rfl (StB.set4 ((HS.out.far (p := ⟨R, 1, none⟩) (by show w.heap.size ≠ R; omega) (.int .i64 ((j : Int) + 1))).drewN _) _ _ _ _) ?_
            exact PRef.bad HQ.out.1 (by rw [HQ.out.2]; exact (HR.out.set1 (j + 1)).drewN _) hRl
        · have HQ := Lib.hid (quoSp_bad (hqq.out.symm.trans (strLoop_esc_bad s f j l h92 (by rw [pk_out s (j + 1) hj1]; decide))))
          have t3 : decide ((s.size : Int) ≤ (j : Int) + 1) = true := by rw [decide_eq_true_eq]; omega
          have t4 : s.size ≤ j + 1 := by omega
          clear hp h34 h92 hj1
          go_wp2_with fail
          go_quiet (fail)
          go_wp2_with fail
          go_quiet (fail)
          go_wp2_with fail
          go_quiet (fail)
          clear g1
          go_wp2_with fail
          refine ret_cell4_tmp Tryd.results68 w.heap.size rfl rfl (StB.set4 ((HS.out.far (p := ⟨R, 1, none⟩) (by show w.heap.size ≠ R; omega) (.int .i64 ((j : Int) + 1))).drewN _) _ _ _ _) ?_
          exact PRef.bad HQ.out.1 (by rw [HQ.out.2]; exact (HR.out.set1 (j + 1)).drewN _) hRl
      · have q92 : ((s[j].toNat : Int) == 92) = false := by rw [hp]; exact (ne_byte 92 92 rfl h92).1
        cases hpr : prC (pk s j) with
        | false =>
          have HQ := Lib.hid (quoSp_bad (hqq.out.symm.trans (strLoop_bad s f j l h34 h92 hpr)))
          have hlo : (s[j].toNat : Int) < 32 ∨ ((32 : Int) ≤ (s[j].toNat : Int) ∧ 126 < (s[j].toNat : Int)) := by
            unfold prC at hpr
            rw [decide_eq_false_iff_not] at hpr
            rw [hp]; omega
          clear hp h34 h92 hpr
          rcases hlo with r1 | ⟨r1, r2⟩
          all_goals
            go_wp2_with fail
            go_quiet (fail)
            go_wp2_with fail
            go_quiet (fail)
            go_wp2_with fail
            refine ret_cell4_tmp Tryd.results68 w.heap.size rfl rfl (StB.set4 (HS.out.drewN _) _ _ _ _) ?_
            exact PRef.bad HQ.out.1 (by rw [HQ.out.2]; exact HR.out.drewN _) hRl
        | true =>
          have HE := Lib.hid (strLoop_next s f j l h34 h92 hpr)
          rw [← hp] at HE
          have r1 : (32 : Int) ≤ (s[j].toNat : Int) := by unfold prC at hpr; rw [decide_eq_true_eq] at hpr; rw [hp]; omega
          have r2 : (s[j].toNat : Int) ≤ 126 := by unfold prC at hpr; rw [decide_eq_true_eq] at hpr; rw [hp]; omega
          clear hp h34 h92 hpr
          go_wp2_with fail
          go_quiet (fail)
          revert nq; intro n1
          go_wp2_with fail
          go_quiet (fail)
          obtain ⟨w3, hw3⟩ : ∃ w3, w3 = ((wr.drewN n1).drewN nq) := ⟨_, rfl⟩
          rw [← hw3]
          have HR3 := Lib.hid (show Rrs w w3 R s (j) by rw [hw3]; exact (HR.out.drewN _).drewN _)
          have HS3 := Lib.hid (show StB w3 w.heap.size (.int .i64 0) (.int .i64 0) (.string ⟨#[]⟩) (.slice none 0 0) by rw [hw3]; exact (HS.out.drewN _).drewN _)
          have HO3 := Lib.hid (show w3.ownsRow (w.heap.size + 1) 5 1 bv l.length (u8s l) by rw [hw3]; exact HO.out)
          have HZ3 := Lib.hid (show w.heap.size + 1 ≤ w3.heap.size by rw [hw3]; exact hwz)
          clear hw3 k0 k1 k2 k3 f0 f1 f2 f3 d0 d1 df
          go_wp2_with (at_builtin; refine wpList_append_own _ rfl (.tmp 117) (.tmp 119) 109 rfl (w.heap.size + 1) 5 i0 (.int .u8 0) 1 1 Tryd.underlying109 hi0 hz0 hz1 hz2 rfl (by decide) bv l.length (u8s l) rfl (HO3.out.alloc _) ⟨w3.heap.size, 0, none⟩ 1 1 [.int .u8 (s[j]).toNat] rfl rfl ?c1 ?c2 ?c3 ?c4 ?c5 ?_
                       case c1 => exact cell_one_new _ _ _
                       case c2 => intro u hu; simp at hu; subst hu; rfl
                       case c3 => unfold maxLen; omega
                       case c4 => omega
                       case c5 => have := HZ3.out; simp; omega
                       intro v' w11 hown' hgrow _
                       have hr11 := Rrs.append (HR3.out.alloc (.cells #[.int .u8 (s[j]).toNat] 5)) hgrow hRl (fun k hk => by have := own_ge HO3.out k hk; omega)
                       have hs11 := (HS3.out.alloc (.cells #[.int .u8 (s[j]).toNat] 5)).only hgrow (fun e => by have := own_ge HO3.out _ e.symm; omega)
                       have q0 := hr11.at_.c0
                       have q1 := hr11.at_.c1
                       have q2 := hr11.at_.fr 1
                       have HR11 := Lib.hid hr11
                       have HS11 := Lib.hid (hs11.far (p := ⟨R, 1, none⟩) (by show w.heap.size ≠ R; omega) (.int .i64 ((j + 1 : Nat) : Int)))
                       have HZ11 := Lib.hid hgrow.size
                       have HO11 := Lib.hid (own_snoc hown')
                       clear hr11 hs11 hown' hgrow)
          go_roundg f
          case measure => omega
          case rel => exact ⟨v', j + 1, l ++ [s[j]], rfl, own_set HO11.out (by omega) 1, by simp; omega, HR11.out.set1 (j + 1), HS11.out, by have := HZ11.out; have := HZ3.out; simp [World.setCell] at *; omega, by omega, by omega, HE.out.symm.trans hqq.out⟩
    · have HQ := Lib.hid (quoSp_bad (hqq.out.symm.trans (strLoop_bad s f j l (by rw [pk_out s j hjs]; decide) (by rw [pk_out s j hjs]; decide) (by rw [pk_out s j hjs]; decide))))
      have t1 : decide ((j : Int) < (s.size : Int)) = false := by rw [decide_eq_false_iff_not]; omega
      have t3 : decide (j < s.size) = false := by rw [decide_eq_false_iff_not]; omega
      have t2 : s.size ≤ j := by omega
      clear hjs
      go_wp2_with fail
      go_quiet (fail)
      go_wp2_with fail
      go_quiet (fail)
      go_wp2_with fail
      refine ret_cell4_tmp Tryd.results68 w.heap.size rfl rfl (StB.set4 (HS.out.drewN _) _ _ _ _) ?_
      exact PRef.bad HQ.out.1 (by rw [HQ.out.2]; exact HR.out.drewN _) hRl
end Go.Proofs.YtoemnccklakkeaaDoor
