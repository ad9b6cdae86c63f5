/-
  LitPlain: the walk of the law.
-/
import Derived.Test.YtoemnccklakkeaaDoorPlW
import Derived.Test.YtoemnccklakkeaaDoorRight
import Derived.Test.YtoemnccklakkeaaDoorNbL
namespace Go.Proofs.YtoemnccklakkeaaDoor
open Go.RowKit Go.Lib
set_option linter.unusedVariables false

theorem escL_app : ∀ a b : List UInt8, escL (a ++ b) = escL a ++ escL b
  | [], b => rfl
  | x :: r, b => by
    rw [List.cons_append, escL, escL, escL_app r b]
    split <;> rfl
theorem walk_str (t : ByteArray) (h : t.size ≤ 4000) (hp : prB t.data.toList = true) : (walk1 2 0 t .nil 1 4096).1 = 0 := by
  have hm : mOf 2 t = t.size := rfl
  have ho : ownE 2 0 t VL.nil.len = 0 := by
    rcases str_cases (n := 0) (s := t) (len := VL.nil.len) with ⟨_, h | ⟨_, h⟩⟩ | ⟨_, _, _, h⟩ | ⟨h, _⟩
    · exact absurd rfl h
    · exact absurd h (Nat.lt_irrefl _)
    · rw [hp] at h; cases h
    · exact h
  unfold walk1
  rw [if_neg (by decide), hm, if_neg (by omega), if_pos ho]; rfl

/-- The facts of a text in quotes that the law asks. -/
theorem quo_facts (t Q : ByteArray) (hQ : Q = ⟨(quoL t.data.toList).toArray⟩) : Q.size = 2 + (escL t.data.toList).length ∧ 2 ≤ Q.size ∧ pk Q 0 = 34 ∧ pk Q (Q.size - 1) = 34 := by
  have hl : Q.data.toList = quoL t.data.toList := by rw [hQ]
  have hs : Q.size = Q.data.toList.length := by rw [Array.length_toList]; rfl
  have h1 : Q.size = 2 + (escL t.data.toList).length := by rw [hs, hl, quoL, List.length_cons, List.length_append, List.length_singleton]; omega
  refine ⟨h1, by omega, ?_, ?_⟩
  · unfold pk; rw [hl]; rfl
  · unfold pk
    rw [hl, quoL, show Q.size - 1 = (escL t.data.toList).length + 1 by omega, List.getD_cons_succ, List.getD_eq_getElem?_getD, List.getElem?_append_right (Nat.le_refl _), Nat.sub_self]; rfl

set_option maxRecDepth 100000 in
set_option maxHeartbeats 4000000 in
theorem litPlain_c (k n : Int) (s : ByteArray) (sub : VL) (sa : Option Addr) (sc : Nat) (t : ByteArray) (ea : Nat → Addr) (w : World) (hfit : (val1 k n s sub).fit) (h64 : (val1 k n s sub).i64) (hsc : sub.len ≤ sc)
    (hrep : RpL w (fun b => b < w.heap.size) sub sa) (ht : t.size ≤ 140737488351232) (he : ErrsAt w ea) (htx : TxAt w) :
    Calls Tryd.prog 6 #[.agg #[.int .i64 k, .int .i64 n, .string s, .slice sa sub.len sc], .string t] w fun e w' => e = .returned (.bool true) ∧ Below w.heap.size w w' := by
  have hroom := htx.room
  obtain ⟨wa, hwa⟩ : ∃ wa, wa = w.alloc (.cells #[.int .i64 k, .int .i64 n, .string s, .slice sa sub.len sc] 31) := ⟨_, rfl⟩
  have hba : Below w.heap.size w wa := by rw [hwa]; exact (Below.refl _ _).alloc (Nat.le_refl _) _
  have hwz : wa.heap.size = w.heap.size + 1 := by rw [hwa]; simp
  have hV : StB wa w.heap.size (.int .i64 k) (.int .i64 n) (.string s) (.slice sa sub.len sc) := by rw [hwa]; exact StB.new w _ _ _ _
  have HV := fun (W : World) (hW : Below wa.heap.size wa W) => hV.below' hW
  have hw : ∀ W, Below wa.heap.size wa W → Below w.heap.size w W := fun W hW => hba.trans (below_le' hW (by omega))
  have HE := fun (W : World) (hW : Below wa.heap.size wa W) => he.below (hw W hW) (Nat.le_of_lt hroom)
  have HX := fun (W : World) (hW : Below wa.heap.size wa W) => htx.below (hw W hW) (Nat.le_refl _)
  have HR := fun (W : World) (hW : Below wa.heap.size wa W) => hrep.keep (w' := W) (S' := fun b => b < W.heap.size) (fun b hb => (hw W hW).block b hb) (fun b hb => by have := (hw W hW).size; omega)
  have F := Lib.hid (first_c ea wa (HE wa (Below.refl _ _)))
  have RC := Lib.hid (fun W hW => right_c k n s sub sa sc W hfit hsc (HR W hW))
  have PC := Lib.hid (fun W hW => Plain_c k n s sub sa sc ea W (HE W hW) (HX W hW) hfit h64 hsc (HR W hW))
  have TC := Lib.hid (fun W hW => Text_c k n s sub sa sc ea W (HE W hW) (HX W hW) hfit h64 hsc (HR W hW))
  have PR := Lib.hid (fun W => printed_c t W ht)
  obtain ⟨r, hr⟩ : ∃ r, r = rightB k n s sub := ⟨_, rfl⟩
  rw [← hr] at RC
  have HVV := Lib.hid HV
  have HB := Lib.hid hba
  have HW := Lib.hid hw
  have HWA := Lib.hid hwa
  cases r with
  | false =>
    clear hba hV HV hw HE HX HR hwa hrep he htx PC TC PR hr
    go_enter Tryd.func6, Tryd.ntmps6
    go_wp2_with fail
    rw [← HWA.out]
    refine F.out.mono ?_
    rintro e w2 ⟨rfl, hb2⟩
    have hv2 := HVV.out _ hb2
    have u0 := hv2.c0; have u1 := hv2.c1; have u2 := hv2.c2; have u3 := hv2.c3
    have HB2 := Lib.hid hb2
    clear hb2 hv2
    go_wp2_with fail
    refine (RC.out _ HB2.out).mono ?_
    rintro e w3 ⟨rfl, hb3⟩
    have HB3 := Lib.hid (HB2.out.trans (below_le' hb3 HB2.out.size))
    clear hb3
    go_wp2_with fail
    go_returns
    exact ⟨rfl, HW.out _ HB3.out⟩
  | true =>
    by_cases h200 : 200 < t.size
    · have hd : decide (200 < (t.size : Int)) = true := by simp; omega
      clear hba hV HV hw HE HX HR hwa hrep he htx PC TC PR hr
      go_enter Tryd.func6, Tryd.ntmps6
      go_wp2_with fail
      rw [← HWA.out]
      refine F.out.mono ?_
      rintro e w2 ⟨rfl, hb2⟩
      have hv2 := HVV.out _ hb2
      have u0 := hv2.c0; have u1 := hv2.c1; have u2 := hv2.c2; have u3 := hv2.c3
      have HB2 := Lib.hid hb2
      clear hb2 hv2
      go_wp2_with fail
      refine (RC.out _ HB2.out).mono ?_
      rintro e w3 ⟨rfl, hb3⟩
      have HB3 := Lib.hid (HB2.out.trans (below_le' hb3 HB2.out.size))
      clear hb3
      go_wp2_with fail
      go_returns
      exact ⟨rfl, HW.out _ HB3.out⟩
    have hd : decide (200 < (t.size : Int)) = false := by simp; omega
    cases hp : prB t.data.toList with
    | false =>
      rw [hp] at PR
      clear hba hV HV hw HE HX HR hwa hrep he htx PC TC hr hp
      go_enter Tryd.func6, Tryd.ntmps6
      go_wp2_with fail
      rw [← HWA.out]
      refine F.out.mono ?_
      rintro e w2 ⟨rfl, hb2⟩
      have hv2 := HVV.out _ hb2
      have u0 := hv2.c0; have u1 := hv2.c1; have u2 := hv2.c2; have u3 := hv2.c3
      have HB2 := Lib.hid hb2
      clear hb2 hv2
      go_wp2_with fail
      refine (RC.out _ HB2.out).mono ?_
      rintro e w3 ⟨rfl, hb3⟩
      have HB3 := Lib.hid (HB2.out.trans (below_le' hb3 HB2.out.size))
      clear hb3
      go_wp2_with fail
      refine (PR.out _).mono ?_
      rintro e w' ⟨rfl, rfl⟩
      go_wp2_with fail
      go_returns
      exact ⟨rfl, HW.out _ HB3.out⟩
    | true =>
      rw [hp] at PR
      have hright : (walk1 k n s sub 1 4096).1 = 0 := by unfold rightB at hr; exact of_decide_eq_true hr.symm
      have hkk : k = 0 ∨ k = 1 ∨ k = 2 ∨ k = 3 ∨ k = 4 := by
        rcases own_ok (OkL_one (walk1_ok hright)).1 with ⟨h, _⟩ | ⟨h, _⟩ | ⟨h, _⟩ | ⟨h, _⟩ | ⟨h, _⟩ <;> omega
      have hw2 := walk_str t (by omega) hp
      obtain ⟨Q, hQ⟩ : ∃ Q : ByteArray, Q = ⟨(quoL t.data.toList).toArray⟩ := ⟨_, rfl⟩
      have T2 := Lib.hid (fun W (hW : Below wa.heap.size wa W) => Text_c 2 0 t .nil none 0 ea W (HE W hW) (HX W hW) ⟨by omega, by decide, trivial, trivial⟩ ⟨by decide, by decide, trivial, trivial⟩ (Nat.le_refl _) trivial)
      rw [show txtV 2 0 t .nil = Q by unfold txtV; rw [if_pos hw2, hQ]; rfl, show VL.nil.len = 0 from rfl] at T2
      have P2 := Lib.hid (fun W (hW : Below wa.heap.size wa W) => Plain_c 2 0 t .nil none 0 ea W (HE W hW) (HX W hW) ⟨by omega, by decide, trivial, trivial⟩ ⟨by decide, by decide, trivial, trivial⟩ (Nat.le_refl _) trivial)
      rw [show plnV 2 0 t .nil = t by unfold plnV; rw [if_pos hw2]; rfl, show VL.nil.len = 0 from rfl] at P2
      obtain ⟨hq1, hq2, hq3, hq4⟩ := quo_facts t Q hQ
      have hq0 : 0 < Q.size := by omega
      have g0 : (((Q[0]'hq0).toNat : Int) == 34) = true := by rw [show Q[0]'hq0 = pk Q 0 from (pk_in Q 0 hq0).symm, hq3]; rfl
      have hqm : Q.size - 1 < Q.size := by omega
      have g1 : (((Q[Q.size - 1]'hqm).toNat : Int) == 34) = true := by rw [show Q[Q.size - 1]'hqm = pk Q (Q.size - 1) from (pk_in Q (Q.size - 1) hqm).symm, hq4]; rfl
      have hqb : Q.size ≤ 1000 := by
                                           have h1 := (escL_len t.data.toList).2
                                           have h2 : t.data.toList.length = t.size := (by rw [Array.length_toList]; rfl)
                                           omega
      have hqc : ((Q.size : Int) - 1) = ((Q.size - 1 : Nat) : Int) := by omega
      have htt := str_eq t
      have HQ1 := Lib.hid hq1
      clear hq3 hq4 hw2 hq1
      have HPV := Lib.hid (show plnV k n s sub = pln1 k n s sub by unfold plnV; rw [if_pos hright])
      have HTV := Lib.hid (show txtV k n s sub = ⟨(txt1 k n s (txtL sub)).toArray⟩ by unfold txtV; rw [if_pos hright])
      rw [HPV.out] at PC
      rw [HTV.out] at TC
      clear hba hV HV hw HE HX HR hwa hrep he htx hr hp hright HPV HTV hQ
      by_cases h2 : k = 2
      · subst h2
        rw [show pln1 2 n s sub = s from rfl] at PC
        have hss := str_eq s
        clear hkk
        go_enter Tryd.func6, Tryd.ntmps6
        go_wp2_with fail
        rw [← HWA.out]
        refine F.out.mono ?_
        rintro e w2 ⟨rfl, hb2⟩
        have hv2 := HVV.out _ hb2
        have u0 := hv2.c0; have u1 := hv2.c1; have u2 := hv2.c2; have u3 := hv2.c3
        have HB2 := Lib.hid hb2
        clear hb2 hv2
        go_wp2_with fail
        refine (RC.out _ HB2.out).mono ?_
        rintro e w3 ⟨rfl, hb3⟩
        have HB3 := Lib.hid (HB2.out.trans (below_le' hb3 HB2.out.size))
        clear hb3 u0 u1 u2 u3
        go_wp2_with fail
        refine (PR.out _).mono ?_
        rintro e w' ⟨rfl, rfl⟩
        have hv3 := HVV.out _ HB3.out
        have u0 := hv3.c0; have u1 := hv3.c1; have u2 := hv3.c2; have u3 := hv3.c3
        clear hv3
        go_wp2_with fail
        refine (PC.out _ HB3.out).mono ?_
        rintro e w4 ⟨rfl, hb4⟩
        have HB4 := Lib.hid (HB3.out.trans (below_le' hb4 HB3.out.size))
        have hv4 := HVV.out _ HB4.out
        clear hb4 u0 u1 u2 u3
        have u0 := hv4.c0; have u1 := hv4.c1; have u2 := hv4.c2; have u3 := hv4.c3
        clear hv4
        have HB5 := HB4
        go_wp2_with fail
        go_loopg [7, 8] t.size (fun kk v7 v8 wr => ∃ i : Nat, v8 = .int .i64 i ∧ v7 = .int .i64 ((2 + (escL (t.data.toList.take i)).length : Nat) : Int) ∧ i + kk = t.size ∧ w4 = wr)
        case atStart => exact ⟨0, rfl, rfl, by omega, rfl⟩
        case round =>
          obtain ⟨i, rfl, rfl, hik, rfl⟩ := hrel
          by_cases hi : i < t.size
          · obtain ⟨g, rfl⟩ : ∃ g, gk = g + 1 := ⟨gk - 1, by omega⟩
            have hts := Lib.hid (take_snoc t i hi)
            have hel := escL_len (t.data.toList.take i)
            have hlt : (t.data.toList.take i).length ≤ i := by rw [List.length_take]; omega
            obtain ⟨m, hm⟩ : ∃ m : Nat, m = 2 + (escL (t.data.toList.take i)).length := ⟨_, rfl⟩
            have hmb : m ≤ 1000 := by omega
            by_cases c34 : t[i] = 34
            · have c1 : (((t[i]'hi).toNat : Int) == 34) = true := by rw [c34]; rfl
              have HN := Lib.hid (show 2 + (escL (t.data.toList.take (i + 1))).length = m + 1 + 1 by rw [hts.out, escL_app, List.length_append, c34, hm, show (escL [34]).length = 2 from rfl]; omega)
              rw [← hm]
              clear hm c34 hel hlt
              go_wp2_with fail
              go_roundg g
              case measure => omega
              case rel => exact ⟨i + 1, by go_num, by rw [HN.out]; go_num, by omega, rfl⟩
            · by_cases c92 : t[i] = 92
              · have c1 : (((t[i]'hi).toNat : Int) == 34) = false := by rw [c92]; rfl
                have c2 : (((t[i]'hi).toNat : Int) == 92) = true := by rw [c92]; rfl
                have HN := Lib.hid (show 2 + (escL (t.data.toList.take (i + 1))).length = m + 1 + 1 by rw [hts.out, escL_app, List.length_append, c92, hm, show (escL [92]).length = 2 from rfl]; omega)
                rw [← hm]
                clear hm c34 c92 hel hlt
                go_wp2_with fail
                go_roundg g
                case measure => omega
                case rel => exact ⟨i + 1, by go_num, by rw [HN.out]; go_num, by omega, rfl⟩
              · have c1 := (ne_byte (x := t[i]) 34 34 rfl c34).1
                have c2 := (ne_byte (x := t[i]) 92 92 rfl c92).1
                have HN := Lib.hid (show 2 + (escL (t.data.toList.take (i + 1))).length = m + 1 by
                  rw [hts.out, escL_app, List.length_append, hm, show escL [t[i]] = [t[i]] by rw [escL, if_neg (by rintro (h | h); exact c34 h; exact c92 h)]; rfl, List.length_singleton]; omega)
                rw [← hm]
                clear hm c34 c92 hel hlt
                go_wp2_with fail
                go_roundg g
                case measure => omega
                case rel => exact ⟨i + 1, by go_num, by rw [HN.out]; go_num, by omega, rfl⟩
          · obtain rfl : i = t.size := by omega
            rw [List.take_of_length_le (by rw [Array.length_toList]; exact Nat.le_refl _), ← HQ1.out]
            go_wp2_with fail
            refine (valS_c t _).mono ?_
            rintro e w6 ⟨rfl, hw6⟩
            have HB6 := Lib.hid (show Below wa.heap.size wa w6 by rw [← hw6]; exact HB5.out.alloc HB5.out.size _)
            clear hw6
            go_wp2_with fail
            refine (T2.out _ HB6.out).mono ?_
            rintro e w7 ⟨rfl, hb7⟩
            have HB7 := Lib.hid (HB6.out.trans (below_le' hb7 HB6.out.size))
            clear hb7
            go_wp2_with fail
            refine (valS_c t _).mono ?_
            rintro e w8 ⟨rfl, hw8⟩
            have HB8 := Lib.hid (show Below wa.heap.size wa w8 by rw [← hw8]; exact HB7.out.alloc HB7.out.size _)
            clear hw8
            go_wp2_with fail
            refine (P2.out _ HB8.out).mono ?_
            rintro e w9 ⟨rfl, hb9⟩
            have HB9 := Lib.hid (HB8.out.trans (below_le' hb9 HB8.out.size))
            clear hb9
            go_wp2_with fail
            go_returns
            exact ⟨rfl, HW.out _ HB9.out⟩

      · by_cases h4 : k = 4
        · subst h4
          rw [show pln1 4 n s sub = ⟨#[123, 108, 105, 115, 116, 125]⟩ from rfl] at PC
          have hss := str_eq ⟨#[123, 108, 105, 115, 116, 125]⟩
          clear hkk h2
          go_enter Tryd.func6, Tryd.ntmps6
          go_wp2_with fail
          rw [← HWA.out]
          refine F.out.mono ?_
          rintro e w2 ⟨rfl, hb2⟩
          have hv2 := HVV.out _ hb2
          have u0 := hv2.c0; have u1 := hv2.c1; have u2 := hv2.c2; have u3 := hv2.c3
          have HB2 := Lib.hid hb2
          clear hb2 hv2
          go_wp2_with fail
          refine (RC.out _ HB2.out).mono ?_
          rintro e w3 ⟨rfl, hb3⟩
          have HB3 := Lib.hid (HB2.out.trans (below_le' hb3 HB2.out.size))
          clear hb3 u0 u1 u2 u3
          go_wp2_with fail
          refine (PR.out _).mono ?_
          rintro e w' ⟨rfl, rfl⟩
          have hv3 := HVV.out _ HB3.out
          have u0 := hv3.c0; have u1 := hv3.c1; have u2 := hv3.c2; have u3 := hv3.c3
          clear hv3
          go_wp2_with fail
          refine (PC.out _ HB3.out).mono ?_
          rintro e w4 ⟨rfl, hb4⟩
          have HB4 := Lib.hid (HB3.out.trans (below_le' hb4 HB3.out.size))
          have hv4 := HVV.out _ HB4.out
          clear hb4 u0 u1 u2 u3
          have u0 := hv4.c0; have u1 := hv4.c1; have u2 := hv4.c2; have u3 := hv4.c3
          clear hv4
          have HB5 := HB4
          go_wp2_with fail
          go_loopg [7, 8] t.size (fun kk v7 v8 wr => ∃ i : Nat, v8 = .int .i64 i ∧ v7 = .int .i64 ((2 + (escL (t.data.toList.take i)).length : Nat) : Int) ∧ i + kk = t.size ∧ w4 = wr)
          case atStart => exact ⟨0, rfl, rfl, by omega, rfl⟩
          case round =>
            obtain ⟨i, rfl, rfl, hik, rfl⟩ := hrel
            by_cases hi : i < t.size
            · obtain ⟨g, rfl⟩ : ∃ g, gk = g + 1 := ⟨gk - 1, by omega⟩
              have hts := Lib.hid (take_snoc t i hi)
              have hel := escL_len (t.data.toList.take i)
              have hlt : (t.data.toList.take i).length ≤ i := by rw [List.length_take]; omega
              obtain ⟨m, hm⟩ : ∃ m : Nat, m = 2 + (escL (t.data.toList.take i)).length := ⟨_, rfl⟩
              have hmb : m ≤ 1000 := by omega
              by_cases c34 : t[i] = 34
              · have c1 : (((t[i]'hi).toNat : Int) == 34) = true := by rw [c34]; rfl
                have HN := Lib.hid (show 2 + (escL (t.data.toList.take (i + 1))).length = m + 1 + 1 by rw [hts.out, escL_app, List.length_append, c34, hm, show (escL [34]).length = 2 from rfl]; omega)
                rw [← hm]
                clear hm c34 hel hlt
                go_wp2_with fail
                go_roundg g
                case measure => omega
                case rel => exact ⟨i + 1, by go_num, by rw [HN.out]; go_num, by omega, rfl⟩
              · by_cases c92 : t[i] = 92
                · have c1 : (((t[i]'hi).toNat : Int) == 34) = false := by rw [c92]; rfl
                  have c2 : (((t[i]'hi).toNat : Int) == 92) = true := by rw [c92]; rfl
                  have HN := Lib.hid (show 2 + (escL (t.data.toList.take (i + 1))).length = m + 1 + 1 by rw [hts.out, escL_app, List.length_append, c92, hm, show (escL [92]).length = 2 from rfl]; omega)
                  rw [← hm]
                  clear hm c34 c92 hel hlt
                  go_wp2_with fail
                  go_roundg g
                  case measure => omega
                  case rel => exact ⟨i + 1, by go_num, by rw [HN.out]; go_num, by omega, rfl⟩
                · have c1 := (ne_byte (x := t[i]) 34 34 rfl c34).1
                  have c2 := (ne_byte (x := t[i]) 92 92 rfl c92).1
                  have HN := Lib.hid (show 2 + (escL (t.data.toList.take (i + 1))).length = m + 1 by
                    rw [hts.out, escL_app, List.length_append, hm, show escL [t[i]] = [t[i]] by rw [escL, if_neg (by rintro (h | h); exact c34 h; exact c92 h)]; rfl, List.length_singleton]; omega)
                  rw [← hm]
                  clear hm c34 c92 hel hlt
                  go_wp2_with fail
                  go_roundg g
                  case measure => omega
                  case rel => exact ⟨i + 1, by go_num, by rw [HN.out]; go_num, by omega, rfl⟩
            · obtain rfl : i = t.size := by omega
              rw [List.take_of_length_le (by rw [Array.length_toList]; exact Nat.le_refl _), ← HQ1.out]
              go_wp2_with fail
              refine (valS_c t _).mono ?_
              rintro e w6 ⟨rfl, hw6⟩
              have HB6 := Lib.hid (show Below wa.heap.size wa w6 by rw [← hw6]; exact HB5.out.alloc HB5.out.size _)
              clear hw6
              go_wp2_with fail
              refine (T2.out _ HB6.out).mono ?_
              rintro e w7 ⟨rfl, hb7⟩
              have HB7 := Lib.hid (HB6.out.trans (below_le' hb7 HB6.out.size))
              clear hb7
              go_wp2_with fail
              refine (valS_c t _).mono ?_
              rintro e w8 ⟨rfl, hw8⟩
              have HB8 := Lib.hid (show Below wa.heap.size wa w8 by rw [← hw8]; exact HB7.out.alloc HB7.out.size _)
              clear hw8
              go_wp2_with fail
              refine (P2.out _ HB8.out).mono ?_
              rintro e w9 ⟨rfl, hb9⟩
              have HB9 := Lib.hid (HB8.out.trans (below_le' hb9 HB8.out.size))
              clear hb9
              go_wp2_with fail
              go_returns
              exact ⟨rfl, HW.out _ HB9.out⟩

        · rw [show pln1 k n s sub = ⟨(txt1 k n s (txtL sub)).toArray⟩ by unfold pln1; rw [if_neg h2, if_neg h4]] at PC
          obtain ⟨X, hX⟩ : ∃ X : ByteArray, X = ⟨(txt1 k n s (txtL sub)).toArray⟩ := ⟨_, rfl⟩
          rw [← hX] at PC TC
          have hss := str_eq X
          have b2 : (k == 2) = false := by rw [beq_eq_false_iff_ne]; exact h2
          have b4 : (k == 4) = false := by rw [beq_eq_false_iff_ne]; exact h4
          clear hkk h2 h4 hX
          go_enter Tryd.func6, Tryd.ntmps6
          go_wp2_with fail
          rw [← HWA.out]
          refine F.out.mono ?_
          rintro e w2 ⟨rfl, hb2⟩
          have hv2 := HVV.out _ hb2
          have u0 := hv2.c0; have u1 := hv2.c1; have u2 := hv2.c2; have u3 := hv2.c3
          have HB2 := Lib.hid hb2
          clear hb2 hv2
          go_wp2_with fail
          refine (RC.out _ HB2.out).mono ?_
          rintro e w3 ⟨rfl, hb3⟩
          have HB3 := Lib.hid (HB2.out.trans (below_le' hb3 HB2.out.size))
          clear hb3 u0 u1 u2 u3
          go_wp2_with fail
          refine (PR.out _).mono ?_
          rintro e w' ⟨rfl, rfl⟩
          have hv3 := HVV.out _ HB3.out
          have u0 := hv3.c0; have u1 := hv3.c1; have u2 := hv3.c2; have u3 := hv3.c3
          clear hv3
          go_wp2_with fail
          refine (PC.out _ HB3.out).mono ?_
          rintro e w4 ⟨rfl, hb4⟩
          have HB4 := Lib.hid (HB3.out.trans (below_le' hb4 HB3.out.size))
          have hv4 := HVV.out _ HB4.out
          clear hb4 u0 u1 u2 u3
          have u0 := hv4.c0; have u1 := hv4.c1; have u2 := hv4.c2; have u3 := hv4.c3
          clear hv4
          go_wp2_with fail
          refine (TC.out _ HB4.out).mono ?_
          rintro e w5 ⟨rfl, hb5⟩
          have HB5 := Lib.hid (HB4.out.trans (below_le' hb5 HB4.out.size))
          clear hb5 u0 u1 u2 u3
          go_wp2_with fail
          go_loopg [7, 8] t.size (fun kk v7 v8 wr => ∃ i : Nat, v8 = .int .i64 i ∧ v7 = .int .i64 ((2 + (escL (t.data.toList.take i)).length : Nat) : Int) ∧ i + kk = t.size ∧ w5 = wr)
          case atStart => exact ⟨0, rfl, rfl, by omega, rfl⟩
          case round =>
            obtain ⟨i, rfl, rfl, hik, rfl⟩ := hrel
            by_cases hi : i < t.size
            · obtain ⟨g, rfl⟩ : ∃ g, gk = g + 1 := ⟨gk - 1, by omega⟩
              have hts := Lib.hid (take_snoc t i hi)
              have hel := escL_len (t.data.toList.take i)
              have hlt : (t.data.toList.take i).length ≤ i := by rw [List.length_take]; omega
              obtain ⟨m, hm⟩ : ∃ m : Nat, m = 2 + (escL (t.data.toList.take i)).length := ⟨_, rfl⟩
              have hmb : m ≤ 1000 := by omega
              by_cases c34 : t[i] = 34
              · have c1 : (((t[i]'hi).toNat : Int) == 34) = true := by rw [c34]; rfl
                have HN := Lib.hid (show 2 + (escL (t.data.toList.take (i + 1))).length = m + 1 + 1 by rw [hts.out, escL_app, List.length_append, c34, hm, show (escL [34]).length = 2 from rfl]; omega)
                rw [← hm]
                clear hm c34 hel hlt
                go_wp2_with fail
                go_roundg g
                case measure => omega
                case rel => exact ⟨i + 1, by go_num, by rw [HN.out]; go_num, by omega, rfl⟩
              · by_cases c92 : t[i] = 92
                · have c1 : (((t[i]'hi).toNat : Int) == 34) = false := by rw [c92]; rfl
                  have c2 : (((t[i]'hi).toNat : Int) == 92) = true := by rw [c92]; rfl
                  have HN := Lib.hid (show 2 + (escL (t.data.toList.take (i + 1))).length = m + 1 + 1 by rw [hts.out, escL_app, List.length_append, c92, hm, show (escL [92]).length = 2 from rfl]; omega)
                  rw [← hm]
                  clear hm c34 c92 hel hlt
                  go_wp2_with fail
                  go_roundg g
                  case measure => omega
                  case rel => exact ⟨i + 1, by go_num, by rw [HN.out]; go_num, by omega, rfl⟩
                · have c1 := (ne_byte (x := t[i]) 34 34 rfl c34).1
                  have c2 := (ne_byte (x := t[i]) 92 92 rfl c92).1
                  have HN := Lib.hid (show 2 + (escL (t.data.toList.take (i + 1))).length = m + 1 by
                    rw [hts.out, escL_app, List.length_append, hm, show escL [t[i]] = [t[i]] by rw [escL, if_neg (by rintro (h | h); exact c34 h; exact c92 h)]; rfl, List.length_singleton]; omega)
                  rw [← hm]
                  clear hm c34 c92 hel hlt
                  go_wp2_with fail
                  go_roundg g
                  case measure => omega
                  case rel => exact ⟨i + 1, by go_num, by rw [HN.out]; go_num, by omega, rfl⟩
            · obtain rfl : i = t.size := by omega
              rw [List.take_of_length_le (by rw [Array.length_toList]; exact Nat.le_refl _), ← HQ1.out]
              go_wp2_with fail
              refine (valS_c t _).mono ?_
              rintro e w6 ⟨rfl, hw6⟩
              have HB6 := Lib.hid (show Below wa.heap.size wa w6 by rw [← hw6]; exact HB5.out.alloc HB5.out.size _)
              clear hw6
              go_wp2_with fail
              refine (T2.out _ HB6.out).mono ?_
              rintro e w7 ⟨rfl, hb7⟩
              have HB7 := Lib.hid (HB6.out.trans (below_le' hb7 HB6.out.size))
              clear hb7
              go_wp2_with fail
              refine (valS_c t _).mono ?_
              rintro e w8 ⟨rfl, hw8⟩
              have HB8 := Lib.hid (show Below wa.heap.size wa w8 by rw [← hw8]; exact HB7.out.alloc HB7.out.size _)
              clear hw8
              go_wp2_with fail
              refine (P2.out _ HB8.out).mono ?_
              rintro e w9 ⟨rfl, hb9⟩
              have HB9 := Lib.hid (HB8.out.trans (below_le' hb9 HB8.out.size))
              clear hb9
              go_wp2_with fail
              go_returns
              exact ⟨rfl, HW.out _ HB9.out⟩

end Go.Proofs.YtoemnccklakkeaaDoor
