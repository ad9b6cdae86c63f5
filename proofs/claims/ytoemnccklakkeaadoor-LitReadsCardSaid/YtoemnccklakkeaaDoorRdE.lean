/-
  lit's reader: str.
-/
import Derived.Test.YtoemnccklakkeaaDoorRdD
import Derived.WalkSmall
namespace Go.Proofs.YtoemnccklakkeaaDoor
open Go.RowKit Go.Lib

theorem own_keep {W W' : World} {base e size n R : Nat} {v : Value} {xs : List Value} (h : W.ownsRow base e size v n xs) (hg : W.grownBy W' (some R)) (hR : R < base) : W'.ownsRow base e size v n xs := by
  refine ⟨h.1, ?_⟩
  rcases h.2 with h0 | ⟨g, cap, cur, hv, hb, hh, r⟩
  · exact .inl h0
  · have hlt : g < W.heap.size := by
      rcases Nat.lt_or_ge g W.heap.size with hlt | hge
      · exact hlt
      · rw [Array.getElem?_eq_none hge] at hh; cases hh
    exact .inr ⟨g, cap, cur, hv, hb, (hg.block g hlt (fun e => by injection e with e; omega)).trans hh, r⟩

theorem conv_text (W : World) (base : Nat) (v : Value) (l : List UInt8) (h : W.ownsRow base 5 1 v l.length (u8s l)) :
    (convert 109 9 v).run Tryd.prog W = .ok (.string ⟨l.toArray⟩) W := by
  rcases h.2 with ⟨rfl, hl⟩ | ⟨g, cap, cur, rfl, _, hh, hc, _, hsz, ht⟩
  · obtain rfl : l = [] := List.eq_nil_of_length_eq_zero hl
    exact run_convert_bytes_nil W _ 5 Tryd.underlying109 Tryd.underlying5 0 0 _ Tryd.underlying9
  · refine run_convert_bytes_back W _ _ 5 ⟨g, 0, none⟩ cap l Tryd.underlying109 Tryd.underlying5 Tryd.underlying9 (fun j hj => ?_)
    have e : (⟨g, 0, none⟩ : Addr).add j = ⟨g, j, none⟩ := by unfold Addr.add; split <;> simp_all
    rw [e, cell_of_row W g j cur _ _ hh]
    have h1 : (cur.toList.take (l.length * 1))[j]? = (u8s l)[j]? := by rw [ht]
    rw [List.getElem?_take_of_lt (by omega)] at h1
    rw [← Array.getElem?_toList, h1]
    unfold u8s
    rw [List.getElem?_map, List.getElem?_eq_getElem hj]
    rfl

theorem own_ge {W : World} {base e size n : Nat} {v : Value} {xs : List Value} (h : W.ownsRow base e size v n xs) (k : Nat) (hk : v.ownBlock = some k) : base ≤ k := by
  rcases h.2 with ⟨rfl, _⟩ | ⟨g, cap, cur, rfl, hb, _⟩
  · cases hk
  · injection hk with hk; subst hk; exact hb
theorem own_snoc {W : World} {base : Nat} {v : Value} {l : List UInt8} {y : UInt8} (h : W.ownsRow base 5 1 v (l.length + 1) (u8s l ++ [.int .u8 y.toNat])) : W.ownsRow base 5 1 v (l ++ [y]).length (u8s (l ++ [y])) := by
  have e1 : (l ++ [y]).length = l.length + 1 := by simp
  have e2 : u8s (l ++ [y]) = u8s l ++ [.int .u8 y.toNat] := by simp [u8s]
  rw [e1, e2]; exact h
theorem own_set {W : World} {base e size n R : Nat} {v u : Value} {xs : List Value} (h : W.ownsRow base e size v n xs) (hR : R < base) (k : Nat) : (W.setCell ⟨R, k, none⟩ u).ownsRow base e size v n xs :=
  own_keep h (only_setCell (only_refl W _) (.inl rfl) u) hR

theorem strLoop_end (s : ByteArray) (f i : Nat) (l : List UInt8) (h : pk s i = 34) : strLoop s (f + 1) i l = (i, true, l) := by rw [strLoop, if_pos h]
theorem strLoop_esc (s : ByteArray) (f i : Nat) (l : List UInt8) (h : pk s i = 92) (h2 : pk s (i + 1) = 34 ∨ pk s (i + 1) = 92) : strLoop s (f + 1) i l = strLoop s f (i + 2) (l ++ [pk s (i + 1)]) := by
  rw [strLoop, if_neg (by rw [h]; decide), if_pos h, if_pos h2]
theorem strLoop_esc_bad (s : ByteArray) (f i : Nat) (l : List UInt8) (h : pk s i = 92) (h2 : ¬(pk s (i + 1) = 34 ∨ pk s (i + 1) = 92)) : strLoop s (f + 1) i l = (i + 1, false, l) := by
  rw [strLoop, if_neg (by rw [h]; decide), if_pos h, if_neg h2]
theorem strLoop_next (s : ByteArray) (f i : Nat) (l : List UInt8) (h : pk s i ≠ 34) (h1 : pk s i ≠ 92) (h2 : prC (pk s i) = true) : strLoop s (f + 1) i l = strLoop s f (i + 1) (l ++ [pk s i]) := by
  rw [strLoop, if_neg h, if_neg h1, if_pos h2]
theorem strLoop_bad (s : ByteArray) (f i : Nat) (l : List UInt8) (h : pk s i ≠ 34) (h1 : pk s i ≠ 92) (h2 : prC (pk s i) = false) : strLoop s (f + 1) i l = (i, false, l) := by
  rw [strLoop, if_neg h, if_neg h1, if_neg (by rw [h2]; decide)]

theorem ne_byte {x : UInt8} (y : UInt8) (n : Int) (hn : (y.toNat : Int) = n) (h : x ≠ y) : ((x.toNat : Int) == n) = false ∧ ((x.toNat : Int) != n) = true := by
  have : ((x.toNat : Int) == n) = false := by
    rw [beq_eq_false_iff_ne]
    intro e
    exact h (UInt8.toNat_inj.1 (by omega))
  exact ⟨this, by rw [bne, this]; rfl⟩

theorem pk_lt {s : ByteArray} {i : Nat} (h : pk s i ≠ 0) : i < s.size := by
  rcases Nat.lt_or_ge i s.size with hi | hi
  · exact hi
  · exact absurd (pk_out s i (by omega)) h

/-- A text in quotes: the place behind it, whether all is right, its bytes. -/
def strSp (s : ByteArray) (i : Nat) : Nat × Bool × List UInt8 :=
  let r := strLoop s (s.size + 1) (i + 1) []
  (if r.2.1 then r.1 + 1 else r.1, r.2.1, r.2.2)

theorem ret_str {a b : ByteArray} (h : a = b) : Ending.returned (.string a) = .returned (.string b) := by rw [h]

set_option maxRecDepth 100000 in
set_option maxHeartbeats 2000000 in
theorem str_c (R : Nat) (s : ByteArray) (i : Nat) (w : World) (h : RdAt w R s i true) (hs : s.size ≤ 1000000000) (hq : pk s i = 34) :
    Calls Tryd.prog 61 #[.pointer (some ⟨R, 0, none⟩)] w fun e w' => e = .returned (.string ⟨(strSp s i).2.2.toArray⟩) ∧ Rds w w' R s (strSp s i).1 (strSp s i).2.1 := by
  obtain ⟨i0, hi0, hz0, hz1, hz2⟩ := info_parts u8_info
  have hi : i < s.size := pk_lt (by rw [hq]; decide)
  have hRl := h.lt
  have tk := fun W hW => take_c R s i true 34 W hW hs
  have e1 : tkOk s i true 34 = true := by simp [tkOk, hi, hq]
  have e2 : tkAt s i true 34 = i + 1 := by unfold tkAt; rw [e1]; rfl
  rw [e1, e2] at tk
  have TK := Lib.hid tk
  clear tk e1 e2 hq
  have HSP := Lib.hid (show strSp s i = (if (strLoop s (s.size + 1) (i + 1) []).2.1 then (strLoop s (s.size + 1) (i + 1) []).1 + 1 else (strLoop s (s.size + 1) (i + 1) []).1, (strLoop s (s.size + 1) (i + 1) []).2.1, (strLoop s (s.size + 1) (i + 1) []).2.2) from rfl)
  go_enter Tryd.func61, Tryd.ntmps61
  go_wp2_with fail
  refine (TK.out _ h).mono ?_
  rintro e w1 ⟨rfl, hr1⟩
  go_wp2_with fail
  go_loopg [3] (s.size + 1) (fun k b wr => ∃ (bv : Value) (j : Nat) (l : List UInt8), bv = b ∧ wr.ownsRow w.heap.size 5 1 bv l.length (u8s l) ∧ l.length ≤ j ∧ Rds w wr R s j true ∧ j ≤ s.size ∧ s.size + 1 + (i + 1) ≤ j + k ∧
    Hid (strLoop s k j l = strLoop s (s.size + 1) (i + 1) []))
  case atStart => exact ⟨.slice none 0 0, i + 1, [], rfl, World.ownsRow_nil _ _ _ _, Nat.zero_le _, hr1, by omega, by omega, rfl⟩
  case round =>
    obtain ⟨bv, j, l, rfl, hown, hll, hr, hj, hk, hqq⟩ := hrel
    obtain ⟨f, rfl⟩ : ∃ f, gk = f + 1 := ⟨gk - 1, by omega⟩
    have pkj := fun W hW => peek_c R s j true W hW
    have hrj := hr.at_
    have j1 := hrj.c1
    have jf1 := hrj.fr 1
    have jf2 := hrj.fr 2
    have j2 := hrj.c2
    have HR := Lib.hid hr
    have HOWN := Lib.hid hown
    clear hr hown
    obtain ⟨x, hx⟩ : ∃ x, x = pk s j := ⟨_, rfl⟩
    rw [← hx] at pkj
    have PKJ := Lib.hid pkj
    clear pkj
    by_cases h34 : pk s j = 34
    · have HE := Lib.hid (strLoop_end s f j l h34)
      obtain rfl : x = 34 := hx.trans h34
      have tk2 := fun W hW => take_c R s j true 34 W hW hs
      have hj' : j < s.size := pk_lt (by rw [h34]; decide)
      have e1 : tkOk s j true 34 = true := by simp [tkOk, hj', h34]
      have e2 : tkAt s j true 34 = j + 1 := by unfold tkAt; rw [e1]; rfl
      rw [e1, e2] at tk2
      have TK2 := Lib.hid tk2
      clear tk2 e1 e2 h34 hx
      go_wp2_with fail
      refine (PKJ.out _ hrj).mono ?_
      rintro e w7 ⟨rfl, n7, rfl⟩
      go_wp2_with fail
      refine (TK2.out _ (hrj.drewN _)).mono ?_
      rintro e w8 ⟨rfl, hr8⟩
      have hcv := conv_text w8 w.heap.size bv l (own_keep (R := R) (W := wr) HOWN.out (only_trans (only_drewN (only_refl _ _) n7) hr8.grown) hRl)
      go_wp2_with fail
      go_ret
      rw [HSP.out, ← hqq.out, HE.out]
      exact ⟨ret_str rfl, (HR.out.drewN _).trans hr8⟩
    have n34 := ne_byte (x := x) 34 34 rfl (by rw [hx]; exact h34)
    obtain ⟨n34a, n34b⟩ := n34
    by_cases h92 : pk s j = 92
    · obtain rfl : x = 92 := hx.trans h92
      clear n34a n34b
      have hj' : j < s.size := pk_lt (by rw [h92]; decide)
      have HRJ1 := Lib.hid ((Rds.of hrj).set1 (j + 1))
      have pkj1 := fun W hW => peek_c R s (j + 1) true W hW
      obtain ⟨y, hy⟩ : ∃ y, y = pk s (j + 1) := ⟨_, rfl⟩
      rw [← hy] at pkj1
      have PKJ1 := Lib.hid pkj1
      clear pkj1
      by_cases hyy : pk s (j + 1) = 34 ∨ pk s (j + 1) = 92
      · have HE := Lib.hid (strLoop_esc s f j l h92 hyy)
        have hpr : prB [y] = true := by rw [hy]; rcases hyy with e | e <;> rw [e] <;> decide
        have hj2 : j + 1 < s.size := pk_lt (by rcases hyy with e | e <;> rw [e] <;> decide)
        have hPR := Lib.hid (show ∀ W, Calls Tryd.prog 87 #[.string ⟨#[y]⟩] W fun e w' => e = .returned (.bool true) ∧ W = w' from fun W => by
          have := printable_c ⟨#[y]⟩ W (by show 1 ≤ _; omega)
          rw [show (ByteArray.mk #[y]).data.toList = [y] from rfl, hpr] at this
          exact this)
        rw [← hy] at HE
        have yy : (((y.toNat : Int) != 34) = false ∨ (((y.toNat : Int) != 34) = true ∧ ((y.toNat : Int) != 92) = false)) := by
          rw [hy]
          rcases hyy with e | e
          · rw [e]; exact .inl rfl
          · rw [e]; exact .inr ⟨rfl, rfl⟩
        clear hyy hy hx h34 h92 hpr
        rcases yy with yy | ⟨yy1, yy2⟩
        all_goals
          go_wp2_with fail
          refine (PKJ.out _ hrj).mono ?_
          rintro e w7 ⟨rfl, n7, rfl⟩
          go_wp2_with fail
          refine (PKJ.out _ (hrj.drewN _)).mono ?_
          rintro e w8 ⟨rfl, n8, rfl⟩
          go_wp2_with fail
          refine (PKJ1.out _ (HRJ1.out.at_.drewN _)).mono ?_
          rintro e w9 ⟨rfl, n9, rfl⟩
          have ht1 := one_text wr.heap.size y (((wr.setCell ⟨R, 1, none⟩ (.int .i64 ((j : Int) + 1))).drewN (n7 + n8 + n9)).alloc (.cells #[.int .u8 y.toNat] 5)) (by
            have hz : ((wr.setCell ⟨R, 1, none⟩ (.int .i64 ((j : Int) + 1))).drewN (n7 + n8 + n9)).heap.size = wr.heap.size := by simp [World.setCell]
            rw [World.cell?_alloc_at _ _ _ _ hz.symm]; rfl)
          go_wp2_with fail
          refine (hPR.out _).mono ?_
          rintro e w10 ⟨rfl, hw10⟩
          have hrL : Rds wr w10 R s (j + 1) true := by rw [← hw10]; exact (HRJ1.out.drewN _).alloc _
          clear hw10
          have hownq := Lib.hid (own_keep HOWN.out hrL.grown hRl)
          have hrT := Lib.hid (HR.out.trans hrL)
          clear hrL
          go_wp2_with (at_builtin; refine wpList_append_own _ rfl (.tmp 46) (.tmp 48) 109 rfl w.heap.size 5 i0 (.int .u8 0) 1 1 Tryd.underlying109 hi0 hz0 hz1 hz2 rfl (by decide) bv l.length (u8s l) rfl (hownq.out.alloc _) ⟨w10.heap.size, 0, none⟩ 1 1 [.int .u8 y.toNat] rfl rfl ?c1 ?c2 ?c3 ?c4 ?c5 ?_
                       case c1 => exact cell_one_new _ _ _
                       case c2 => intro u hu; simp at hu; subst hu; rfl
                       case c3 => unfold maxLen; omega
                       case c4 => omega
                       case c5 => exact Nat.le_trans hrT.out.grown.size (by simp)
                       intro v' w11 hown' hgrow _
                       have hr11 := Rds.append (hrT.out.alloc _) hgrow hRl (fun k hk => own_ge hownq.out k hk)
                       have q1 := hr11.at_.c1
                       have q2 := hr11.at_.fr 1
                       have HR11 := Lib.hid hr11
                       have HO11 := Lib.hid (own_snoc hown')
                       clear hr11 hown' hgrow)
          go_roundg f
          case measure => omega
          case rel => exact ⟨v', (j + 1) + 1, l ++ [y], rfl, own_set HO11.out hRl 1, by simp; omega, HR11.out.set1 ((j + 1) + 1), by omega, by omega, HE.out.symm.trans hqq.out⟩
      · have HE := Lib.hid (strLoop_esc_bad s f j l h92 hyy)
        have y1 := ne_byte (x := y) 34 34 rfl (by rw [hy]; exact fun e => hyy (.inl e))
        have y2 := ne_byte (x := y) 92 92 rfl (by rw [hy]; exact fun e => hyy (.inr e))
        obtain ⟨y1a, y1b⟩ := y1
        obtain ⟨y2a, y2b⟩ := y2
        have TK3 := Lib.hid (fun W hW => take_c R s (j + 1) false 34 W hW hs)
        clear hyy hy hx h34 h92
        go_wp2_with fail
        refine (PKJ.out _ hrj).mono ?_
        rintro e w7 ⟨rfl, n7, rfl⟩
        go_wp2_with fail
        refine (PKJ.out _ (hrj.drewN _)).mono ?_
        rintro e w8 ⟨rfl, n8, rfl⟩
        go_wp2_with fail
        refine (PKJ1.out _ (HRJ1.out.at_.drewN _)).mono ?_
        rintro e w9 ⟨rfl, n9, rfl⟩
        go_wp2_with fail
        refine (TK3.out _ (by exact (HRJ1.out.at_.drewN _).set2 false)).mono ?_
        rintro e w10 ⟨rfl, hr10⟩
        have hrL : Rds wr w10 R s (j + 1) false := ((HRJ1.out.drewN _).set2 false).trans hr10
        have hcv := conv_text w10 w.heap.size bv l (own_keep HOWN.out hrL.grown hRl)
        go_wp2_with fail
        go_ret
        rw [HSP.out, ← hqq.out, HE.out]
        exact ⟨ret_str rfl, HR.out.trans hrL⟩
    · have n92 := ne_byte (x := x) 92 92 rfl (by rw [hx]; exact h92)
      obtain ⟨n92a, n92b⟩ := n92
      cases hp : prC (pk s j) with
      | false =>
        have HE := Lib.hid (strLoop_bad s f j l h34 h92 hp)
        have hPR := Lib.hid (show ∀ W, Calls Tryd.prog 87 #[.string ⟨#[x]⟩] W fun e w' => e = .returned (.bool false) ∧ W = w' from fun W => by
          have := printable_c ⟨#[x]⟩ W (by show 1 ≤ _; omega)
          rw [show (ByteArray.mk #[x]).data.toList = [x] from rfl, show prB [x] = false by unfold prB; rw [List.all_cons, hx, hp]; rfl] at this
          exact this)
        have TK3 := Lib.hid (fun W hW => take_c R s j false 34 W hW hs)
        clear hp hx h34 h92
        go_wp2_with fail
        refine (PKJ.out _ hrj).mono ?_
        rintro e w7 ⟨rfl, n7, rfl⟩
        go_wp2_with fail
        refine (PKJ.out _ (hrj.drewN _)).mono ?_
        rintro e w8 ⟨rfl, n8, rfl⟩
        have ht1 := one_text wr.heap.size x ((wr.drewN (n7 + n8)).alloc (.cells #[.int .u8 x.toNat] 5)) (by rw [World.cell?_alloc_at _ _ _ _ (show wr.heap.size = (wr.drewN (n7 + n8)).heap.size from rfl)]; rfl)
        go_wp2_with fail
        refine (hPR.out _).mono ?_
        rintro e w10 ⟨rfl, hw10⟩
        have hrL : Rds wr w10 R s j true := by rw [← hw10]; exact ((Rds.of hrj).drewN _).alloc _
        have q2 := hrL.at_.c2
        have q3 := hrL.at_.fr 2
        have HRL := Lib.hid hrL
        clear hw10 hrL
        go_wp2_with fail
        refine (TK3.out _ (HRL.out.set2 false).at_).mono ?_
        rintro e w11 ⟨rfl, hr11⟩
        have hrM : Rds wr w11 R s j false := (HRL.out.set2 false).trans hr11
        have hcv := conv_text w11 w.heap.size bv l (own_keep HOWN.out hrM.grown hRl)
        go_wp2_with fail
        go_ret
        rw [HSP.out, ← hqq.out, HE.out]
        exact ⟨ret_str rfl, HR.out.trans hrM⟩
      | true =>
        have HE := Lib.hid (strLoop_next s f j l h34 h92 hp)
        have hj2 : j < s.size := pk_lt (fun e => by rw [e] at hp; exact absurd hp (by decide))
        have hPR := Lib.hid (show ∀ W, Calls Tryd.prog 87 #[.string ⟨#[x]⟩] W fun e w' => e = .returned (.bool true) ∧ W = w' from fun W => by
          have := printable_c ⟨#[x]⟩ W (by show 1 ≤ _; omega)
          rw [show (ByteArray.mk #[x]).data.toList = [x] from rfl, show prB [x] = true by unfold prB; rw [List.all_cons, hx, hp]; rfl] at this
          exact this)
        rw [← hx] at HE
        clear hp hx h34 h92
        go_wp2_with fail
        refine (PKJ.out _ hrj).mono ?_
        rintro e w7 ⟨rfl, n7, rfl⟩
        go_wp2_with fail
        refine (PKJ.out _ (hrj.drewN _)).mono ?_
        rintro e w8 ⟨rfl, n8, rfl⟩
        have ht1 := one_text wr.heap.size x ((wr.drewN (n7 + n8)).alloc (.cells #[.int .u8 x.toNat] 5)) (by rw [World.cell?_alloc_at _ _ _ _ (show wr.heap.size = (wr.drewN (n7 + n8)).heap.size from rfl)]; rfl)
        go_wp2_with fail
        refine (hPR.out _).mono ?_
        rintro e w10 ⟨rfl, hw10⟩
        have hrL : Rds wr w10 R s j true := by rw [← hw10]; exact ((Rds.of hrj).drewN _).alloc _
        clear hw10
        have hownq := Lib.hid (own_keep HOWN.out hrL.grown hRl)
        have hrT := Lib.hid (HR.out.trans hrL)
        clear hrL
        go_wp2_with (at_builtin; refine wpList_append_own _ rfl (.tmp 46) (.tmp 48) 109 rfl w.heap.size 5 i0 (.int .u8 0) 1 1 Tryd.underlying109 hi0 hz0 hz1 hz2 rfl (by decide) bv l.length (u8s l) rfl (hownq.out.alloc _) ⟨w10.heap.size, 0, none⟩ 1 1 [.int .u8 x.toNat] rfl rfl ?c1 ?c2 ?c3 ?c4 ?c5 ?_
                     case c1 => exact cell_one_new _ _ _
                     case c2 => intro u hu; simp at hu; subst hu; rfl
                     case c3 => unfold maxLen; omega
                     case c4 => omega
                     case c5 => exact Nat.le_trans hrT.out.grown.size (by simp)
                     intro v' w11 hown' hgrow _
                     have hr11 := Rds.append (hrT.out.alloc _) hgrow hRl (fun k hk => own_ge hownq.out k hk)
                     have q1 := hr11.at_.c1
                     have q2 := hr11.at_.fr 1
                     have HR11 := Lib.hid hr11
                     have HO11 := Lib.hid (own_snoc hown')
                     clear hr11 hown' hgrow)
        go_roundg f
        case measure => omega
        case rel => exact ⟨v', j + 1, l ++ [x], rfl, own_set HO11.out hRl 1, by simp; omega, HR11.out.set1 (j + 1), by omega, by omega, HE.out.symm.trans hqq.out⟩
end Go.Proofs.YtoemnccklakkeaaDoor
