/- Contracts of the functions that the statement reaches, and the plain mathematics beneath: several texts joined. -/
import Derived.WalkSmall
import Derived.IntWalk
import Derived.Test.YtggngahmafbihaaGreatDoorPbiAA
namespace Go.Proofs.YtggngahmafbihaaGreatDoor
open Go.RowKit Go.Lib

theorem own_keep {W W' : World} {base e size n R : Nat} {v : Value} {xs : List Value} (h : W.ownsRow base e size v n xs) (hg : W.grownBy W' (some R)) (hR : R < base) : W'.ownsRow base e size v n xs := by
  refine ⟨h.1, ?_⟩
  rcases h.2 with h0 | ⟨g, cap, cur, hv, hb, hh, r⟩
  · exact .inl h0
  · have hlt : g < W.heap.size := by
      rcases Nat.lt_or_ge g W.heap.size with hlt | hge
      · exact hlt
      · rw [Array.getElem?_eq_none hge] at hh; cases hh
    exact .inr ⟨g, cap, cur, hv, hb, (hg.block g hlt (fun e => by injection e with e; omega)).trans hh, r⟩

theorem conv_text (W : World) (base : Nat) (v : Value) (l : List UInt8) (h : W.ownsRow base 5 1 v l.length (u8s l)) :
    (convert 53 9 v).run Tryz.prog W = .ok (.string ⟨l.toArray⟩) W := by
  rcases h.2 with ⟨rfl, hl⟩ | ⟨g, cap, cur, rfl, _, hh, hc, _, hsz, ht⟩
  · obtain rfl : l = [] := List.eq_nil_of_length_eq_zero hl
    exact run_convert_bytes_nil W _ 5 Tryz.underlying53 Tryz.underlying5 0 0 _ Tryz.underlying9
  · refine run_convert_bytes_back W _ _ 5 ⟨g, 0, none⟩ cap l Tryz.underlying53 Tryz.underlying5 Tryz.underlying9 (fun j hj => ?_)
    have e : (⟨g, 0, none⟩ : Addr).add j = ⟨g, j, none⟩ := by unfold Addr.add; split <;> simp_all
    rw [e, cell_of_row W g j cur _ _ hh]
    have h1 : (cur.toList.take (l.length * 1))[j]? = (u8s l)[j]? := by rw [ht]
    rw [List.getElem?_take_of_lt (by omega)] at h1
    rw [← Array.getElem?_toList, h1]
    unfold u8s
    rw [List.getElem?_map, List.getElem?_eq_getElem hj]
    rfl

theorem own_ge {W : World} {base e size n : Nat} {v : Value} {xs : List Value} (h : W.ownsRow base e size v n xs) (k : Nat) (hk : v.ownBlock = some k) : base ≤ k := by
  rcases h.2 with ⟨rfl, _⟩ | ⟨g, cap, cur, rfl, hb, _⟩
  · cases hk
  · injection hk with hk; subst hk; exact hb
theorem own_snoc {W : World} {base : Nat} {v : Value} {l : List UInt8} {y : UInt8} (h : W.ownsRow base 5 1 v (l.length + 1) (u8s l ++ [.int .u8 y.toNat])) : W.ownsRow base 5 1 v (l ++ [y]).length (u8s (l ++ [y])) := by
  have e1 : (l ++ [y]).length = l.length + 1 := by simp
  have e2 : u8s (l ++ [y]) = u8s l ++ [.int .u8 y.toNat] := by simp [u8s]
  rw [e1, e2]; exact h
theorem own_set {W : World} {base e size n R : Nat} {v u : Value} {xs : List Value} (h : W.ownsRow base e size v n xs) (hR : R < base) (k : Nat) : (W.setCell ⟨R, k, none⟩ u).ownsRow base e size v n xs :=
  own_keep h (only_setCell (only_refl W _) (.inl rfl) u) hR

theorem strLoop_end (s : ByteArray) (f i : Nat) (l : List UInt8) (h : pk s i = 34) : strLoop s (f + 1) i l = (i, true, l) := by rw [strLoop, if_pos h]
theorem strLoop_esc (s : ByteArray) (f i : Nat) (l : List UInt8) (h : pk s i = 92) (h2 : pk s (i + 1) = 34 ∨ pk s (i + 1) = 92) : strLoop s (f + 1) i l = strLoop s f (i + 2) (l ++ [pk s (i + 1)]) := by
  rw [strLoop, if_neg (by rw [h]; decide), if_pos h, if_pos h2]
theorem strLoop_esc_bad (s : ByteArray) (f i : Nat) (l : List UInt8) (h : pk s i = 92) (h2 : ¬(pk s (i + 1) = 34 ∨ pk s (i + 1) = 92)) : strLoop s (f + 1) i l = (i + 1, false, l) := by
  rw [strLoop, if_neg (by rw [h]; decide), if_pos h, if_neg h2]
theorem strLoop_next (s : ByteArray) (f i : Nat) (l : List UInt8) (h : pk s i ≠ 34) (h1 : pk s i ≠ 92) (h2 : prC (pk s i) = true) : strLoop s (f + 1) i l = strLoop s f (i + 1) (l ++ [pk s i]) := by
  rw [strLoop, if_neg h, if_neg h1, if_pos h2]
theorem strLoop_bad (s : ByteArray) (f i : Nat) (l : List UInt8) (h : pk s i ≠ 34) (h1 : pk s i ≠ 92) (h2 : prC (pk s i) = false) : strLoop s (f + 1) i l = (i, false, l) := by
  rw [strLoop, if_neg h, if_neg h1, if_neg (by rw [h2]; decide)]

theorem ne_byte {x : UInt8} (y : UInt8) (n : Int) (hn : (y.toNat : Int) = n) (h : x ≠ y) : ((x.toNat : Int) == n) = false ∧ ((x.toNat : Int) != n) = true := by
  have : ((x.toNat : Int) == n) = false := by
    rw [beq_eq_false_iff_ne]
    intro e
    exact h (UInt8.toNat_inj.1 (by omega))
  exact ⟨this, by rw [bne, this]; rfl⟩

theorem pk_lt {s : ByteArray} {i : Nat} (h : pk s i ≠ 0) : i < s.size := by
  rcases Nat.lt_or_ge i s.size with hi | hi
  · exact hi
  · exact absurd (pk_out s i (by omega)) h

/-- A text in quotes: the place behind it, whether all is right, its bytes. -/
def strSp (s : ByteArray) (i : Nat) : Nat × Bool × List UInt8 :=
  let r := strLoop s (s.size + 1) (i + 1) []
  (if r.2.1 then r.1 + 1 else r.1, r.2.1, r.2.2)

theorem ret_str {a b : ByteArray} (h : a = b) : Ending.returned (.string a) = .returned (.string b) := by rw [h]

set_option maxRecDepth 100000 in
set_option maxHeartbeats 2000000 in
theorem str_c (R : Nat) (s : ByteArray) (i : Nat) (w : World) (h : RdAt w R s i true) (hs : s.size ≤ 1000000000) (hq : pk s i = 34) :
    Calls Tryz.prog 191 #[.pointer (some ⟨R, 0, none⟩)] w fun e w' => e = .returned (.string ⟨(strSp s i).2.2.toArray⟩) ∧ Rds w w' R s (strSp s i).1 (strSp s i).2.1 := by
  obtain ⟨i0, hi0, hz0, hz1, hz2⟩ := info_parts u8_info
  have hi : i < s.size := pk_lt (by rw [hq]; decide)
  have hRl := h.lt
  have tk := fun W hW => take_c R s i true 34 W hW hs
  have e1 : tkOk s i true 34 = true := by simp [tkOk, hi, hq]
  have e2 : tkAt s i true 34 = i + 1 := by unfold tkAt; rw [e1]; rfl
  rw [e1, e2] at tk
  have TK := Lib.hid tk
  clear tk e1 e2 hq
  have HSP := Lib.hid (show strSp s i = (if (strLoop s (s.size + 1) (i + 1) []).2.1 then (strLoop s (s.size + 1) (i + 1) []).1 + 1 else (strLoop s (s.size + 1) (i + 1) []).1, (strLoop s (s.size + 1) (i + 1) []).2.1, (strLoop s (s.size + 1) (i + 1) []).2.2) from rfl)
  go_enter Tryz.func191, Tryz.ntmps191
  go_wp2_with fail
  refine (TK.out _ h).mono ?_
  rintro e w1 ⟨rfl, hr1⟩
  go_wp2_with fail
  go_loopg [3] (s.size + 1) (fun k b wr => ∃ (bv : Value) (j : Nat) (l : List UInt8), bv = b ∧ wr.ownsRow w.heap.size 5 1 bv l.length (u8s l) ∧ l.length ≤ j ∧ Rds w wr R s j true ∧ j ≤ s.size ∧ s.size + 1 + (i + 1) ≤ j + k ∧
    Hid (strLoop s k j l = strLoop s (s.size + 1) (i + 1) []))
  case atStart => exact ⟨.slice none 0 0, i + 1, [], rfl, World.ownsRow_nil _ _ _ _, Nat.zero_le _, hr1, by omega, by omega, rfl⟩
  case round =>
    obtain ⟨bv, j, l, rfl, hown, hll, hr, hj, hk, hqq⟩ := hrel
    obtain ⟨f, rfl⟩ : ∃ f, gk = f + 1 := ⟨gk - 1, by omega⟩
    have pkj := fun W hW => peek_c R s j true W hW
    have hrj := hr.at_
    have j1 := hrj.c1
    have jf1 := hrj.fr 1
    have jf2 := hrj.fr 2
    have j2 := hrj.c2
    have HR := Lib.hid hr
    have HOWN := Lib.hid hown
    clear hr hown
    obtain ⟨x, hx⟩ : ∃ x, x = pk s j := ⟨_, rfl⟩
    rw [← hx] at pkj
    have PKJ := Lib.hid pkj
    clear pkj
    by_cases h34 : pk s j = 34
    · have HE := Lib.hid (strLoop_end s f j l h34)
      obtain rfl : x = 34 := hx.trans h34
      have tk2 := fun W hW => take_c R s j true 34 W hW hs
      have hj' : j < s.size := pk_lt (by rw [h34]; decide)
      have e1 : tkOk s j true 34 = true := by simp [tkOk, hj', h34]
      have e2 : tkAt s j true 34 = j + 1 := by unfold tkAt; rw [e1]; rfl
      rw [e1, e2] at tk2
      have TK2 := Lib.hid tk2
      clear tk2 e1 e2 h34 hx
      go_wp2_with fail
      refine (PKJ.out _ hrj).mono ?_
      rintro e w7 ⟨rfl, n7, rfl⟩
      go_wp2_with fail
      refine (TK2.out _ (hrj.drewN _)).mono ?_
      rintro e w8 ⟨rfl, hr8⟩
      have hcv := conv_text w8 w.heap.size bv l (own_keep (R := R) (W := wr) HOWN.out (only_trans (only_drewN (only_refl _ _) n7) hr8.grown) hRl)
      go_wp2_with fail
      go_ret
      rw [HSP.out, ← hqq.out, HE.out]
      exact ⟨ret_str rfl, (HR.out.drewN _).trans hr8⟩
    have n34 := ne_byte (x := x) 34 34 rfl (by rw [hx]; exact h34)
    obtain ⟨n34a, n34b⟩ := n34
    by_cases h92 : pk s j = 92
    · obtain rfl : x = 92 := hx.trans h92
      clear n34a n34b
      have hj' : j < s.size := pk_lt (by rw [h92]; decide)
      have HRJ1 := Lib.hid ((Rds.of hrj).set1 (j + 1))
      have pkj1 := fun W hW => peek_c R s (j + 1) true W hW
      obtain ⟨y, hy⟩ : ∃ y, y = pk s (j + 1) := ⟨_, rfl⟩
      rw [← hy] at pkj1
      have PKJ1 := Lib.hid pkj1
      clear pkj1
      by_cases hyy : pk s (j + 1) = 34 ∨ pk s (j + 1) = 92
      · have HE := Lib.hid (strLoop_esc s f j l h92 hyy)
        have hpr : prB [y] = true := by rw [hy]; rcases hyy with e | e <;> rw [e] <;> decide
        have hj2 : j + 1 < s.size := pk_lt (by rcases hyy with e | e <;> rw [e] <;> decide)
        have hPR := Lib.hid (show ∀ W, Calls Tryz.prog 225 #[.string ⟨#[y]⟩] W fun e w' => e = .returned (.bool true) ∧ W = w' from fun W => by
          have := printable_c ⟨#[y]⟩ W (by show 1 ≤ _; omega)
          rw [show (ByteArray.mk #[y]).data.toList = [y] from rfl, hpr] at this
          exact this)
        rw [← hy] at HE
        have yy : (((y.toNat : Int) != 34) = false ∨ (((y.toNat : Int) != 34) = true ∧ ((y.toNat : Int) != 92) = false)) := by
          rw [hy]
          rcases hyy with e | e
          · rw [e]; exact .inl rfl
          · rw [e]; exact .inr ⟨rfl, rfl⟩
        clear hyy hy hx h34 h92 hpr
        rcases yy with yy | ⟨yy1, yy2⟩
        all_goals
          go_wp2_with fail
          refine (PKJ.out _ hrj).mono ?_
          rintro e w7 ⟨rfl, n7, rfl⟩
          go_wp2_with fail
          refine (PKJ.out _ (hrj.drewN _)).mono ?_
          rintro e w8 ⟨rfl, n8, rfl⟩
          go_wp2_with fail
          refine (PKJ1.out _ (HRJ1.out.at_.drewN _)).mono ?_
          rintro e w9 ⟨rfl, n9, rfl⟩
          have ht1 := one_text wr.heap.size y (((wr.setCell ⟨R, 1, none⟩ (.int .i64 ((j : Int) + 1))).drewN (n7 + n8 + n9)).alloc (.cells #[.int .u8 y.toNat] 5)) (by
            have hz : ((wr.setCell ⟨R, 1, none⟩ (.int .i64 ((j : Int) + 1))).drewN (n7 + n8 + n9)).heap.size = wr.heap.size := by simp [World.setCell]
            rw [World.cell?_alloc_at _ _ _ _ hz.symm]; rfl)
          go_wp2_with fail
          refine (hPR.out _).mono ?_
          rintro e w10 ⟨rfl, hw10⟩
          have hrL : Rds wr w10 R s (j + 1) true := by rw [← hw10]; exact (HRJ1.out.drewN _).alloc _
          clear hw10
          have hownq := Lib.hid (own_keep HOWN.out hrL.grown hRl)
          have hrT := Lib.hid (HR.out.trans hrL)
          clear hrL
          go_wp2_with (at_builtin; refine wpList_append_own _ rfl (.tmp 46) (.tmp 48) 53 rfl w.heap.size 5 i0 (.int .u8 0) 1 1 Tryz.underlying53 hi0 hz0 hz1 hz2 rfl (by decide) bv l.length (u8s l) rfl (hownq.out.alloc _) ⟨w10.heap.size, 0, none⟩ 1 1 [.int .u8 y.toNat] rfl rfl ?c1 ?c2 ?c3 ?c4 ?c5 ?_
                       case c1 => exact cell_one_new _ _ _
                       case c2 => intro u hu; simp at hu; subst hu; rfl
                       case c3 => unfold maxLen; omega
                       case c4 => omega
                       case c5 => exact Nat.le_trans hrT.out.grown.size (by simp)
                       intro v' w11 hown' hgrow _
                       have hr11 := Rds.append (hrT.out.alloc _) hgrow hRl (fun k hk => own_ge hownq.out k hk)
                       have q1 := hr11.at_.c1
                       have q2 := hr11.at_.fr 1
                       have HR11 := Lib.hid hr11
                       have HO11 := Lib.hid (own_snoc hown')
                       clear hr11 hown' hgrow)
          go_roundg f
          case measure => omega
          case rel => exact ⟨v', (j + 1) + 1, l ++ [y], rfl, own_set HO11.out hRl 1, by simp; omega, HR11.out.set1 ((j + 1) + 1), by omega, by omega, HE.out.symm.trans hqq.out⟩
      · have HE := Lib.hid (strLoop_esc_bad s f j l h92 hyy)
        have y1 := ne_byte (x := y) 34 34 rfl (by rw [hy]; exact fun e => hyy (.inl e))
        have y2 := ne_byte (x := y) 92 92 rfl (by rw [hy]; exact fun e => hyy (.inr e))
        obtain ⟨y1a, y1b⟩ := y1
        obtain ⟨y2a, y2b⟩ := y2
        have TK3 := Lib.hid (fun W hW => take_c R s (j + 1) false 34 W hW hs)
        clear hyy hy hx h34 h92
        go_wp2_with fail
        refine (PKJ.out _ hrj).mono ?_
        rintro e w7 ⟨rfl, n7, rfl⟩
        go_wp2_with fail
        refine (PKJ.out _ (hrj.drewN _)).mono ?_
        rintro e w8 ⟨rfl, n8, rfl⟩
        go_wp2_with fail
        refine (PKJ1.out _ (HRJ1.out.at_.drewN _)).mono ?_
        rintro e w9 ⟨rfl, n9, rfl⟩
        go_wp2_with fail
        refine (TK3.out _ (by exact (HRJ1.out.at_.drewN _).set2 false)).mono ?_
        rintro e w10 ⟨rfl, hr10⟩
        have hrL : Rds wr w10 R s (j + 1) false := ((HRJ1.out.drewN _).set2 false).trans hr10
        have hcv := conv_text w10 w.heap.size bv l (own_keep HOWN.out hrL.grown hRl)
        go_wp2_with fail
        go_ret
        rw [HSP.out, ← hqq.out, HE.out]
        exact ⟨ret_str rfl, HR.out.trans hrL⟩
    · have n92 := ne_byte (x := x) 92 92 rfl (by rw [hx]; exact h92)
      obtain ⟨n92a, n92b⟩ := n92
      cases hp : prC (pk s j) with
      | false =>
        have HE := Lib.hid (strLoop_bad s f j l h34 h92 hp)
        have hPR := Lib.hid (show ∀ W, Calls Tryz.prog 225 #[.string ⟨#[x]⟩] W fun e w' => e = .returned (.bool false) ∧ W = w' from fun W => by
          have := printable_c ⟨#[x]⟩ W (by show 1 ≤ _; omega)
          rw [show (ByteArray.mk #[x]).data.toList = [x] from rfl, show prB [x] = false by unfold prB; rw [List.all_cons, hx, hp]; rfl] at this
          exact this)
        have TK3 := Lib.hid (fun W hW => take_c R s j false 34 W hW hs)
        clear hp hx h34 h92
        go_wp2_with fail
        refine (PKJ.out _ hrj).mono ?_
        rintro e w7 ⟨rfl, n7, rfl⟩
        go_wp2_with fail
        refine (PKJ.out _ (hrj.drewN _)).mono ?_
        rintro e w8 ⟨rfl, n8, rfl⟩
        have ht1 := one_text wr.heap.size x ((wr.drewN (n7 + n8)).alloc (.cells #[.int .u8 x.toNat] 5)) (by rw [World.cell?_alloc_at _ _ _ _ (show wr.heap.size = (wr.drewN (n7 + n8)).heap.size from rfl)]; rfl)
        go_wp2_with fail
        refine (hPR.out _).mono ?_
        rintro e w10 ⟨rfl, hw10⟩
        have hrL : Rds wr w10 R s j true := by rw [← hw10]; exact ((Rds.of hrj).drewN _).alloc _
        have q2 := hrL.at_.c2
        have q3 := hrL.at_.fr 2
        have HRL := Lib.hid hrL
        clear hw10 hrL
        go_wp2_with fail
        refine (TK3.out _ (HRL.out.set2 false).at_).mono ?_
        rintro e w11 ⟨rfl, hr11⟩
        have hrM : Rds wr w11 R s j false := (HRL.out.set2 false).trans hr11
        have hcv := conv_text w11 w.heap.size bv l (own_keep HOWN.out hrM.grown hRl)
        go_wp2_with fail
        go_ret
        rw [HSP.out, ← hqq.out, HE.out]
        exact ⟨ret_str rfl, HR.out.trans hrM⟩
      | true =>
        have HE := Lib.hid (strLoop_next s f j l h34 h92 hp)
        have hj2 : j < s.size := pk_lt (fun e => by rw [e] at hp; exact absurd hp (by decide))
        have hPR := Lib.hid (show ∀ W, Calls Tryz.prog 225 #[.string ⟨#[x]⟩] W fun e w' => e = .returned (.bool true) ∧ W = w' from fun W => by
          have := printable_c ⟨#[x]⟩ W (by show 1 ≤ _; omega)
          rw [show (ByteArray.mk #[x]).data.toList = [x] from rfl, show prB [x] = true by unfold prB; rw [List.all_cons, hx, hp]; rfl] at this
          exact this)
        rw [← hx] at HE
        clear hp hx h34 h92
        go_wp2_with fail
        refine (PKJ.out _ hrj).mono ?_
        rintro e w7 ⟨rfl, n7, rfl⟩
        go_wp2_with fail
        refine (PKJ.out _ (hrj.drewN _)).mono ?_
        rintro e w8 ⟨rfl, n8, rfl⟩
        have ht1 := one_text wr.heap.size x ((wr.drewN (n7 + n8)).alloc (.cells #[.int .u8 x.toNat] 5)) (by rw [World.cell?_alloc_at _ _ _ _ (show wr.heap.size = (wr.drewN (n7 + n8)).heap.size from rfl)]; rfl)
        go_wp2_with fail
        refine (hPR.out _).mono ?_
        rintro e w10 ⟨rfl, hw10⟩
        have hrL : Rds wr w10 R s j true := by rw [← hw10]; exact ((Rds.of hrj).drewN _).alloc _
        clear hw10
        have hownq := Lib.hid (own_keep HOWN.out hrL.grown hRl)
        have hrT := Lib.hid (HR.out.trans hrL)
        clear hrL
        go_wp2_with (at_builtin; refine wpList_append_own _ rfl (.tmp 46) (.tmp 48) 53 rfl w.heap.size 5 i0 (.int .u8 0) 1 1 Tryz.underlying53 hi0 hz0 hz1 hz2 rfl (by decide) bv l.length (u8s l) rfl (hownq.out.alloc _) ⟨w10.heap.size, 0, none⟩ 1 1 [.int .u8 x.toNat] rfl rfl ?c1 ?c2 ?c3 ?c4 ?c5 ?_
                     case c1 => exact cell_one_new _ _ _
                     case c2 => intro u hu; simp at hu; subst hu; rfl
                     case c3 => unfold maxLen; omega
                     case c4 => omega
                     case c5 => exact Nat.le_trans hrT.out.grown.size (by simp)
                     intro v' w11 hown' hgrow _
                     have hr11 := Rds.append (hrT.out.alloc _) hgrow hRl (fun k hk => own_ge hownq.out k hk)
                     have q1 := hr11.at_.c1
                     have q2 := hr11.at_.fr 1
                     have HR11 := Lib.hid hr11
                     have HO11 := Lib.hid (own_snoc hown')
                     clear hr11 hown' hgrow)
        go_roundg f
        case measure => omega
        case rel => exact ⟨v', j + 1, l ++ [x], rfl, own_set HO11.out hRl 1, by simp; omega, HR11.out.set1 (j + 1), by omega, by omega, HE.out.symm.trans hqq.out⟩
end Go.Proofs.YtggngahmafbihaaGreatDoor
namespace Go.Proofs.YtggngahmafbihaaGreatDoor
open Go.RowKit Go.Lib

/-- The names of the codes, by number. -/
def nmL : List ByteArray := [⟨#[69, 95, 78, 79, 78, 69]⟩, ⟨#[69, 95, 84, 89, 80, 69]⟩, ⟨#[69, 95, 68, 73, 86]⟩, ⟨#[69, 95, 80, 69, 82, 77]⟩, ⟨#[69, 95, 80, 82, 79, 80, 78, 70]⟩, ⟨#[69, 95, 86, 69, 82, 66, 78, 70]⟩,
  ⟨#[69, 95, 86, 65, 82, 78, 70]⟩, ⟨#[69, 95, 73, 78, 86, 73, 78, 68]⟩, ⟨#[69, 95, 82, 69, 67, 77, 79, 86, 69]⟩, ⟨#[69, 95, 77, 65, 88, 82, 69, 67]⟩, ⟨#[69, 95, 82, 65, 78, 71, 69]⟩, ⟨#[69, 95, 65, 82, 71, 83]⟩,
  ⟨#[69, 95, 78, 65, 67, 67]⟩, ⟨#[69, 95, 73, 78, 86, 65, 82, 71]⟩, ⟨#[69, 95, 81, 85, 79, 84, 65]⟩]
theorem nmL_len : nmL.length = 15 := rfl

theorem names_c (w : World) : Calls Tryz.prog 157 #[] w fun e w' => e = .returned (.slice (some ⟨w.heap.size, 0, none⟩) 15 15) ∧ w' = w.alloc (.cells (nmL.map Value.string).toArray 9) := by
  go_enter Tryz.func157, Tryz.ntmps157
  go_wp2
  go_ret
  exact ⟨rfl, rfl⟩

/-- How many letters of a name are at hand, from the k-th on; with fuel. -/
def cpl (s : ByteArray) (i : Nat) (n : ByteArray) : Nat → Nat → Nat
  | 0, k => k
  | f + 1, k => if k < n.size ∧ i + k < s.size ∧ pk s (i + k) = pk n k then cpl s i n f (k + 1) else k
def cp (s : ByteArray) (i : Nat) (n : ByteArray) : Nat := cpl s i n (n.size + 1) 0

/-- What is known behind one name more: the code, how many of its letters, the most letters of any. -/
def codeStep (s : ByteArray) (i : Nat) (n : ByteArray) (c : Nat) (r : Int × Int × Int) : Int × Int × Int :=
  if (cp s i n = n.size ∧ r.2.1 < cp s i n) then (c, cp s i n, max r.2.2 (cp s i n)) else (r.1, r.2.1, max r.2.2 (cp s i n))
def codeTo (s : ByteArray) (i : Nat) : Nat → Int × Int × Int
  | 0 => (0, -1, 0)
  | c + 1 => codeStep s i (nmL.getD c ByteArray.empty) c (codeTo s i c)

/-- A code: the place behind its name, whether all is right, the code. -/
def codeSp (s : ByteArray) (i : Nat) : Nat × Bool × Int :=
  let r := codeTo s i 15
  if r.2.1 < 0 then (i + r.2.2.toNat, false, r.1) else (i + r.2.1.toNat, true, r.1)

theorem cpl_le (s : ByteArray) (i : Nat) (n : ByteArray) : ∀ (f k : Nat), k ≤ n.size → k ≤ cpl s i n f k ∧ cpl s i n f k ≤ n.size
  | 0, k, h => ⟨Nat.le_refl _, h⟩
  | f + 1, k, h => by
    unfold cpl
    split
    · rename_i hc
      have := cpl_le s i n f (k + 1) (by omega)
      omega
    · omega
theorem cp_le (s : ByteArray) (i : Nat) (n : ByteArray) : cp s i n ≤ n.size := (cpl_le s i n _ 0 (Nat.zero_le _)).2

theorem nm_short : ∀ n ∈ nmL, n.size ≤ 20 := by decide

theorem codeTo_range (s : ByteArray) (i : Nat) : ∀ c, c ≤ 15 → (0 ≤ (codeTo s i c).1 ∧ (codeTo s i c).1 ≤ 14) ∧ (-1 ≤ (codeTo s i c).2.1 ∧ (codeTo s i c).2.1 ≤ 20) ∧ (0 ≤ (codeTo s i c).2.2 ∧ (codeTo s i c).2.2 ≤ 20)
  | 0, _ => by simp [codeTo]
  | c + 1, h => by
    obtain ⟨h1, h2, h3⟩ := codeTo_range s i c (by omega)
    have hc : c < nmL.length := by rw [nmL_len]; omega
    have hn : (nmL.getD c ByteArray.empty).size ≤ 20 := by
      rw [List.getD_eq_getElem?_getD, List.getElem?_eq_getElem hc]
      exact nm_short _ (List.getElem_mem hc)
    have hcp := cp_le s i (nmL.getD c ByteArray.empty)
    rw [codeTo, codeStep]
    split
    · refine ⟨?_, ?_, ?_⟩ <;> simp only <;> omega
    · refine ⟨?_, ?_, ?_⟩ <;> simp only <;> omega
end Go.Proofs.YtggngahmafbihaaGreatDoor
namespace Go.Proofs.YtggngahmafbihaaGreatDoor
open Go.RowKit Go.Lib

theorem cpl_step (s : ByteArray) (i : Nat) (n : ByteArray) (f k : Nat) (h : k < n.size ∧ i + k < s.size ∧ pk s (i + k) = pk n k) : cpl s i n (f + 1) k = cpl s i n f (k + 1) := by
  rw [cpl, if_pos h]
theorem cpl_stop (s : ByteArray) (i : Nat) (n : ByteArray) (f k : Nat) (h : ¬(k < n.size ∧ i + k < s.size ∧ pk s (i + k) = pk n k)) : cpl s i n f k = k := by
  cases f with
  | zero => rfl
  | succ f => rw [cpl, if_neg h]

theorem names_cell (w : World) (c : Nat) (hc : c < 15) (n : Nat) : ((w.alloc (.cells (nmL.map Value.string).toArray 9)).drewN n).cell? ⟨w.heap.size, c, none⟩ = some (.string (nmL.getD c ByteArray.empty)) := by
  show (w.alloc (.cells (nmL.map Value.string).toArray 9)).cell? ⟨w.heap.size, c, none⟩ = _
  rw [World.cell?_alloc_at _ _ _ _ rfl]
  have hc' : c < nmL.length := by rw [nmL_len]; omega
  rw [List.getD_eq_getElem?_getD, List.getElem?_eq_getElem hc']
  simp [hc']

set_option maxRecDepth 100000 in
set_option maxHeartbeats 2000000 in
theorem code_c (R : Nat) (s : ByteArray) (i : Nat) (w : World) (h : RdAt w R s i true) (hs : s.size ≤ 1000000000) (hi : i ≤ s.size) :
    Calls Tryz.prog 194 #[.pointer (some ⟨R, 0, none⟩)] w fun e w' => e = .returned (.int .i64 (codeSp s i).2.2) ∧ Rds w w' R s (codeSp s i).1 (codeSp s i).2.1 := by
  have hRl := h.lt
  have HNM := Lib.hid (names_cell w)
  obtain ⟨w1, hw1⟩ : ∃ w1, w1 = w.alloc (.cells (nmL.map Value.string).toArray 9) := ⟨_, rfl⟩
  have hr1 : Rds w w1 R s i true := by rw [hw1]; exact (Rds.of h).alloc _
  have hnm := names_c w
  rw [← hw1] at HNM hnm
  have NMC := Lib.hid (hnm.mono (fun e w' ⟨he, hw⟩ => (⟨he, hw.symm⟩ : e = _ ∧ w1 = w')))
  clear hnm
  have HR1 := Lib.hid hr1
  have a0 := hr1.at_.c0
  have a1 := hr1.at_.c1
  have a2 := hr1.at_.c2
  have af1 := hr1.at_.fr 1
  have af2 := hr1.at_.fr 2
  clear hr1 h
  go_enter Tryz.func194, Tryz.ntmps194
  go_wp2_with fail
  refine NMC.out.mono ?_
  rintro e w' ⟨rfl, rfl⟩
  clear hw1
  go_wp2_with fail
  go_loopg [3, 4, 5, 11] 15 (fun k v3 v4 v5 v11 wr => ∃ (c n : Nat) (x y z : Int), c + k = 15 ∧ v11 = .int .i64 c ∧ wr = w1.drewN n ∧ v3 = .int .i64 x ∧ v4 = .int .i64 y ∧ v5 = .int .i64 z ∧ Hid (codeTo s i c = (x, y, z)))
  case atStart => exact ⟨0, 0, 0, -1, 0, rfl, rfl, rfl, rfl, rfl, rfl, rfl⟩
  case round =>
    obtain ⟨c, n, x, y, z, hck, rfl, rfl, rfl, rfl, rfl, hct⟩ := hrel
    have hrng := codeTo_range s i c (by omega)
    rw [hct.out] at hrng
    obtain ⟨⟨x1, x2⟩, ⟨y1, y2⟩, ⟨z1, z2⟩⟩ := hrng
    simp only at x1 x2 y1 y2 z1 z2
    by_cases hlt : c < 15
    · obtain ⟨f, rfl⟩ : ∃ f, gk = f + 1 := ⟨gk - 1, by omega⟩
      obtain ⟨nm, hnm⟩ : ∃ nm, nm = nmL.getD c ByteArray.empty := ⟨_, rfl⟩
      have hcell := HNM.out c hlt n
      rw [← hnm] at hcell
      have hnl : nm.size ≤ 20 := by
        rw [hnm, List.getD_eq_getElem?_getD, List.getElem?_eq_getElem (by rw [nmL_len]; omega)]
        exact nm_short _ (List.getElem_mem _)
      have HST := Lib.hid (show codeTo s i (c + 1) = codeStep s i nm c (x, y, z) by rw [codeTo, hct.out, hnm])
      clear hnm
      go_wp2_with fail
      go_loopg [8] (nm.size + 1) (fun k' v8 wr => ∃ (m n' : Nat), v8 = .int .i64 m ∧ wr = w1.drewN n' ∧ m ≤ nm.size ∧ nm.size + 1 = m + k' ∧ Hid (cpl s i nm k' m = cp s i nm))
      case atStart => exact ⟨0, n, rfl, rfl, Nat.zero_le _, by omega, rfl⟩
      case round =>
        obtain ⟨m, n', rfl, rfl, hm, hmk, hcp⟩ := hrel
        obtain ⟨f', rfl⟩ : ∃ f', gk = f' + 1 := ⟨gk - 1, by omega⟩
        by_cases hm1 : m < nm.size
        · have t1 : decide ((m : Int) < (nm.size : Int)) = true := by simpa using hm1
          by_cases hm2 : i + m < s.size
          · by_cases hb : pk s (i + m) = pk nm m
            · have HCP := Lib.hid ((cpl_step s i nm f' m ⟨hm1, hm2, hb⟩).symm.trans hcp.out)
              have hq : ((s[i + m].toNat : Int) == (nm[m].toNat : Int)) = true := by rw [← pk_in s _ hm2, ← pk_in nm _ hm1, hb]; simp
              have hm2' : (i : Int) + (m : Int) < (s.size : Int) := by omega
              have g1 : IntKind.i64.wrap ((i : Int) + (m : Int)) = (i : Int) + (m : Int) := IntWalk.i64_in _ ⟨by omega, by omega⟩
              have g2 : (0 : Int) ≤ (i : Int) + (m : Int) := by omega
              have g3 : ((i : Int) + (m : Int)).toNat = i + m := by omega
              clear hb t1
              go_wp2
              go_quiet (fail)
              clear g1
              go_wp2
              go_roundg f'
              case measure => omega
              case rel => exact ⟨m + 1, _, by go_num, rfl, by omega, by omega, HCP.out⟩
            · have HM := Lib.hid (hcp.out.symm.trans (cpl_stop s i nm _ m (fun hh => hb hh.2.2)))
              have hq : ((s[i + m].toNat : Int) == (nm[m].toNat : Int)) = false := by
                rw [← pk_in s _ hm2, ← pk_in nm _ hm1, beq_eq_false_iff_ne]
                intro e
                exact hb (UInt8.toNat_inj.1 (by omega))
              have hm2' : (i : Int) + (m : Int) < (s.size : Int) := by omega
              clear hb t1
              by_cases hfull : m = nm.size
              · have e1 : ((m : Int) == (nm.size : Int)) = true := by rw [hfull]; simp
                by_cases hmore : y < (m : Int)
                · have HS2 := Lib.hid (show codeTo s i (c + 1) = ((c : Int), (m : Int), max z (m : Int)) by rw [HST.out, codeStep, if_pos ⟨by rw [HM.out, hfull], by rw [HM.out]; exact hmore⟩, HM.out])
                  clear hfull
                  have g2 : (0 : Int) ≤ (i : Int) + (m : Int) := by omega
                  have g3 : ((i : Int) + (m : Int)).toNat = i + m := by omega
                  have g1 : IntKind.i64.wrap ((i : Int) + (m : Int)) = (i : Int) + (m : Int) := IntWalk.i64_in _ ⟨by omega, by omega⟩
                  go_wp2
                  go_quiet (fail)
                  clear g1
                  go_wp2
                  all_goals
                    go_roundg f
                    case measure => omega
                    case rel => exact ⟨c + 1, _, _, _, max z (m : Int), by omega, by go_num, rfl, rfl, rfl, (by congr 1; omega), HS2.out⟩
                · have hmore' : (m : Int) ≤ y := by omega
                  have HS2 := Lib.hid (show codeTo s i (c + 1) = (x, y, max z (m : Int)) by rw [HST.out, codeStep, if_neg (by rw [HM.out]; simp only; omega), HM.out])
                  clear hmore hfull
                  have g2 : (0 : Int) ≤ (i : Int) + (m : Int) := by omega
                  have g3 : ((i : Int) + (m : Int)).toNat = i + m := by omega
                  have g1 : IntKind.i64.wrap ((i : Int) + (m : Int)) = (i : Int) + (m : Int) := IntWalk.i64_in _ ⟨by omega, by omega⟩
                  go_wp2
                  go_quiet (fail)
                  clear g1
                  go_wp2
                  all_goals
                    go_roundg f
                    case measure => omega
                    case rel => exact ⟨c + 1, _, _, _, max z (m : Int), by omega, by go_num, rfl, rfl, rfl, (by congr 1; omega), HS2.out⟩
              · have e1 : ((m : Int) == (nm.size : Int)) = false := by rw [beq_eq_false_iff_ne]; omega
                have HS2 := Lib.hid (show codeTo s i (c + 1) = (x, y, max z (m : Int)) by rw [HST.out, codeStep, if_neg (by rw [HM.out]; omega), HM.out])
                clear hfull
                have g2 : (0 : Int) ≤ (i : Int) + (m : Int) := by omega
                have g3 : ((i : Int) + (m : Int)).toNat = i + m := by omega
                have g1 : IntKind.i64.wrap ((i : Int) + (m : Int)) = (i : Int) + (m : Int) := IntWalk.i64_in _ ⟨by omega, by omega⟩
                go_wp2
                go_quiet (fail)
                clear g1
                go_wp2
                all_goals
                  go_roundg f
                  case measure => omega
                  case rel => exact ⟨c + 1, _, _, _, max z (m : Int), by omega, by go_num, rfl, rfl, rfl, (by congr 1; omega), HS2.out⟩
          · have HM := Lib.hid (hcp.out.symm.trans (cpl_stop s i nm _ m (fun hh => hm2 hh.2.1)))
            have hm2' : (s.size : Int) ≤ (i : Int) + (m : Int) := by omega
            have hm2'' : decide ((i : Int) + (m : Int) < (s.size : Int)) = false := by simpa using hm2'
            clear t1 hm2
            by_cases hfull : m = nm.size
            · have e1 : ((m : Int) == (nm.size : Int)) = true := by rw [hfull]; simp
              by_cases hmore : y < (m : Int)
              · have HS2 := Lib.hid (show codeTo s i (c + 1) = ((c : Int), (m : Int), max z (m : Int)) by rw [HST.out, codeStep, if_pos ⟨by rw [HM.out, hfull], by rw [HM.out]; exact hmore⟩, HM.out])
                clear hfull
                have g2 : (0 : Int) ≤ (i : Int) + (m : Int) := by omega
                have g3 : ((i : Int) + (m : Int)).toNat = i + m := by omega
                have g1 : IntKind.i64.wrap ((i : Int) + (m : Int)) = (i : Int) + (m : Int) := IntWalk.i64_in _ ⟨by omega, by omega⟩
                go_wp2
                go_quiet (fail)
                clear g1
                go_wp2
                all_goals
                  go_roundg f
                  case measure => omega
                  case rel => exact ⟨c + 1, _, _, _, max z (m : Int), by omega, by go_num, rfl, rfl, rfl, (by congr 1; omega), HS2.out⟩
              · have hmore' : (m : Int) ≤ y := by omega
                have HS2 := Lib.hid (show codeTo s i (c + 1) = (x, y, max z (m : Int)) by rw [HST.out, codeStep, if_neg (by rw [HM.out]; simp only; omega), HM.out])
                clear hmore hfull
                have g2 : (0 : Int) ≤ (i : Int) + (m : Int) := by omega
                have g3 : ((i : Int) + (m : Int)).toNat = i + m := by omega
                have g1 : IntKind.i64.wrap ((i : Int) + (m : Int)) = (i : Int) + (m : Int) := IntWalk.i64_in _ ⟨by omega, by omega⟩
                go_wp2
                go_quiet (fail)
                clear g1
                go_wp2
                all_goals
                  go_roundg f
                  case measure => omega
                  case rel => exact ⟨c + 1, _, _, _, max z (m : Int), by omega, by go_num, rfl, rfl, rfl, (by congr 1; omega), HS2.out⟩
            · have e1 : ((m : Int) == (nm.size : Int)) = false := by rw [beq_eq_false_iff_ne]; omega
              have HS2 := Lib.hid (show codeTo s i (c + 1) = (x, y, max z (m : Int)) by rw [HST.out, codeStep, if_neg (by rw [HM.out]; omega), HM.out])
              clear hfull
              have g2 : (0 : Int) ≤ (i : Int) + (m : Int) := by omega
              have g3 : ((i : Int) + (m : Int)).toNat = i + m := by omega
              have g1 : IntKind.i64.wrap ((i : Int) + (m : Int)) = (i : Int) + (m : Int) := IntWalk.i64_in _ ⟨by omega, by omega⟩
              go_wp2
              go_quiet (fail)
              clear g1
              go_wp2
              all_goals
                go_roundg f
                case measure => omega
                case rel => exact ⟨c + 1, _, _, _, max z (m : Int), by omega, by go_num, rfl, rfl, rfl, (by congr 1; omega), HS2.out⟩
        · have HM := Lib.hid (hcp.out.symm.trans (cpl_stop s i nm _ m (fun hh => hm1 hh.1)))
          have t1 : decide (m < nm.size) = false := by simpa using hm1
          have hm1' : (nm.size : Int) ≤ (m : Int) := by omega
          clear hm1
          by_cases hfull : m = nm.size
          · have e1 : ((m : Int) == (nm.size : Int)) = true := by rw [hfull]; simp
            by_cases hmore : y < (m : Int)
            · have HS2 := Lib.hid (show codeTo s i (c + 1) = ((c : Int), (m : Int), max z (m : Int)) by rw [HST.out, codeStep, if_pos ⟨by rw [HM.out, hfull], by rw [HM.out]; exact hmore⟩, HM.out])
              clear hfull
              go_wp2
              go_quiet (fail)
              go_wp2
              all_goals
                go_roundg f
                case measure => omega
                case rel => exact ⟨c + 1, _, _, _, max z (m : Int), by omega, by go_num, rfl, rfl, rfl, (by congr 1; omega), HS2.out⟩
            · have hmore' : (m : Int) ≤ y := by omega
              have HS2 := Lib.hid (show codeTo s i (c + 1) = (x, y, max z (m : Int)) by rw [HST.out, codeStep, if_neg (by rw [HM.out]; simp only; omega), HM.out])
              clear hmore hfull
              go_wp2
              go_quiet (fail)
              go_wp2
              all_goals
                go_roundg f
                case measure => omega
                case rel => exact ⟨c + 1, _, _, _, max z (m : Int), by omega, by go_num, rfl, rfl, rfl, (by congr 1; omega), HS2.out⟩
          · have e1 : ((m : Int) == (nm.size : Int)) = false := by rw [beq_eq_false_iff_ne]; omega
            have HS2 := Lib.hid (show codeTo s i (c + 1) = (x, y, max z (m : Int)) by rw [HST.out, codeStep, if_neg (by rw [HM.out]; omega), HM.out])
            clear hfull
            go_wp2
            go_quiet (fail)
            go_wp2
            all_goals
              go_roundg f
              case measure => omega
              case rel => exact ⟨c + 1, _, _, _, max z (m : Int), by omega, by go_num, rfl, rfl, rfl, (by congr 1; omega), HS2.out⟩
    · have hc15 : c = 15 := by omega
      subst hc15
      have HSP := Lib.hid (show codeSp s i = if y < 0 then (i + z.toNat, false, x) else (i + y.toNat, true, x) by unfold codeSp; rw [hct.out])
      obtain ⟨z', rfl⟩ := Int.eq_ofNat_of_zero_le z1
      by_cases hy : y < 0
      · rw [if_pos hy, Int.toNat_natCast] at HSP
        go_wp2
        go_ret
        rw [HSP.out]
        exact ⟨ret_int rfl, ((HR1.out.drewN n).set2 false).set1 (i + z')⟩
      · rw [if_neg hy] at HSP
        have hy' : 0 ≤ y := by omega
        obtain ⟨y', rfl⟩ := Int.eq_ofNat_of_zero_le hy'
        rw [Int.toNat_natCast] at HSP
        clear hy
        go_wp2
        go_ret
        rw [HSP.out]
        exact ⟨ret_int rfl, (HR1.out.drewN n).set1 (i + y')⟩
end Go.Proofs.YtggngahmafbihaaGreatDoor
namespace Go.Proofs.YtggngahmafbihaaGreatDoor
open Go.RowKit Go.Lib

def val1 (k n : Int) (s : ByteArray) (sub : VL) : VL := .cons k n s sub .nil

mutual
/-- A value at a place: the place behind it, whether all is right, the value. -/
def valSp (s : ByteArray) : Nat → Nat → Nat × Bool × VL
  | 0, i => (i, false, .nil)
  | f + 1, i =>
    if pk s i = 35 then ((numSp s (-2147483648) 2147483647 (i + 1)).1, (numSp s (-2147483648) 2147483647 (i + 1)).2.1, val1 1 (numSp s (-2147483648) 2147483647 (i + 1)).2.2 ByteArray.empty .nil)
    else if pk s i = 45 ∨ digB (pk s i) = true then ((numSp s (-9223372036854775808) 9223372036854775807 i).1, (numSp s (-9223372036854775808) 9223372036854775807 i).2.1, val1 0 (numSp s (-9223372036854775808) 9223372036854775807 i).2.2 ByteArray.empty .nil)
    else if pk s i = 34 then ((strSp s i).1, (strSp s i).2.1, val1 2 0 ⟨(strSp s i).2.2.toArray⟩ .nil)
    else if pk s i = 123 then
      if pk s (i + 1) = 125 then (i + 2, true, val1 4 0 ByteArray.empty .nil)
      else ((lstSp s f (i + 1) .nil).1, (lstSp s f (i + 1) .nil).2.1, val1 4 0 ByteArray.empty (lstSp s f (i + 1) .nil).2.2)
    else ((codeSp s i).1, (codeSp s i).2.1, val1 3 (codeSp s i).2.2 ByteArray.empty .nil)
/-- The items of a list, from one of them on. -/
def lstSp (s : ByteArray) : Nat → Nat → VL → Nat × Bool × VL
  | 0, i, acc => (i, false, acc)
  | f + 1, i, acc =>
    if (valSp s f i).2.1 = false then ((valSp s f i).1, false, acc)
    else if pk s (valSp s f i).1 = 44 then
      if pk s ((valSp s f i).1 + 1) = 32 then lstSp s f ((valSp s f i).1 + 2) (acc.app (valSp s f i).2.2)
      else ((valSp s f i).1 + 1, false, acc.app (valSp s f i).2.2)
    else if pk s (valSp s f i).1 = 125 then ((valSp s f i).1 + 1, true, acc.app (valSp s f i).2.2)
    else ((valSp s f i).1, false, acc.app (valSp s f i).2.2)
end

theorem numLoop_place (s : ByteArray) (low high : Int) (neg : Bool) : ∀ (f i : Nat) (n : Int), i ≤ s.size → i ≤ (numLoop s low high neg f i n).1 ∧ (numLoop s low high neg f i n).1 ≤ s.size
  | 0, i, n, h => ⟨Nat.le_refl _, h⟩
  | f + 1, i, n, h => by
    cases hd : digB (pk s i) with
    | false => rw [numLoop_end _ _ _ _ _ _ _ hd]; exact ⟨Nat.le_refl _, h⟩
    | true =>
      have hi := digB_in hd
      by_cases hg : n < -922337203685477580 ∨ 10 * n < -9223372036854775808 + ((pk s i).toNat - 48 : Int) ∨ (neg = true ∧ 10 * n - ((pk s i).toNat - 48 : Int) < low) ∨ (neg = false ∧ 10 * n - ((pk s i).toNat - 48 : Int) < -high)
      · rw [numLoop_bad _ _ _ _ _ _ _ hd hg]; exact ⟨Nat.le_refl _, h⟩
      · rw [numLoop_step _ _ _ _ _ _ _ hd hg]
        have := numLoop_place s low high neg f (i + 1) (10 * n - ((pk s i).toNat - 48 : Int)) (by omega)
        omega

theorem numSp_place (s : ByteArray) (low high : Int) (i : Nat) (h : i ≤ s.size) : i ≤ (numSp s low high i).1 ∧ (numSp s low high i).1 ≤ s.size := by
  unfold numSp
  split
  · rename_i h45
    have hi : i < s.size := pk_lt (by rw [h45]; decide)
    split
    · simp only; omega
    · have := numLoop_place s low high true (s.size + 1) (i + 1) 0 (by omega)
      omega
  · split
    · rename_i h48
      have hi : i < s.size := pk_lt (by rw [h48]; decide)
      simp only; omega
    · split
      · exact ⟨Nat.le_refl _, h⟩
      · exact numLoop_place s low high false (s.size + 1) i 0 h

theorem strLoop_place (s : ByteArray) : ∀ (f i : Nat) (l : List UInt8), i ≤ s.size → i ≤ (strLoop s f i l).1 ∧ (strLoop s f i l).1 ≤ s.size ∧ (0 < f → s.size < i + f → (strLoop s f i l).2.1 = true → pk s (strLoop s f i l).1 = 34)
  | 0, i, l, h => ⟨Nat.le_refl _, h, fun h0 => absurd h0 (by omega)⟩
  | f + 1, i, l, h => by
    by_cases h34 : pk s i = 34
    · rw [strLoop_end _ _ _ _ h34]; exact ⟨Nat.le_refl _, h, fun _ _ _ => h34⟩
    by_cases h92 : pk s i = 92
    · have hi : i < s.size := pk_lt (by rw [h92]; decide)
      by_cases hy : pk s (i + 1) = 34 ∨ pk s (i + 1) = 92
      · rw [strLoop_esc _ _ _ _ h92 hy]
        have hi2 : i + 1 < s.size := pk_lt (by rcases hy with e | e <;> rw [e] <;> decide)
        have := strLoop_place s f (i + 2) (l ++ [pk s (i + 1)]) (by omega)
        exact ⟨by omega, this.2.1, fun _ hb hc => this.2.2 (by omega) (by omega) hc⟩
      · rw [strLoop_esc_bad _ _ _ _ h92 hy]; exact ⟨by simp, by simp only; omega, fun _ _ hc => by cases hc⟩
    cases hp : prC (pk s i) with
    | false => rw [strLoop_bad _ _ _ _ h34 h92 hp]; exact ⟨Nat.le_refl _, h, fun _ _ hc => by cases hc⟩
    | true =>
      have hi : i < s.size := pk_lt (fun e => by rw [e] at hp; exact absurd hp (by decide))
      rw [strLoop_next _ _ _ _ h34 h92 hp]
      have := strLoop_place s f (i + 1) (l ++ [pk s i]) (by omega)
      exact ⟨by omega, this.2.1, fun _ hb hc => this.2.2 (by omega) (by omega) hc⟩

theorem strSp_place (s : ByteArray) (i : Nat) (h : i < s.size) : i ≤ (strSp s i).1 ∧ (strSp s i).1 ≤ s.size := by
  have := strLoop_place s (s.size + 1) (i + 1) [] (by omega)
  unfold strSp
  simp only
  split
  · rename_i hok
    have h34 := this.2.2 (by omega) (by omega) hok
    have := pk_lt (s := s) (i := (strLoop s (s.size + 1) (i + 1) []).1) (by rw [h34]; decide)
    omega
  · omega

theorem cpl_room (s : ByteArray) (i : Nat) (n : ByteArray) : ∀ (f k : Nat), i + k ≤ s.size → i + cpl s i n f k ≤ s.size
  | 0, k, h => h
  | f + 1, k, h => by
    unfold cpl
    split
    · rename_i hc
      exact cpl_room s i n f (k + 1) (by omega)
    · exact h

theorem codeTo_room (s : ByteArray) (i : Nat) (h : i ≤ s.size) : ∀ c, (i : Int) + (codeTo s i c).2.1 ≤ s.size ∧ (i : Int) + (codeTo s i c).2.2 ≤ s.size
  | 0 => by simp [codeTo]; omega
  | c + 1 => by
    obtain ⟨h1, h2⟩ := codeTo_room s i h c
    have h3 := cpl_room s i (nmL.getD c ByteArray.empty) ((nmL.getD c ByteArray.empty).size + 1) 0 (by omega)
    have h4 : i + cp s i (nmL.getD c ByteArray.empty) ≤ s.size := h3
    rw [codeTo, codeStep]
    split <;> simp only <;> omega

theorem codeSp_place (s : ByteArray) (i : Nat) (h : i ≤ s.size) : i ≤ (codeSp s i).1 ∧ (codeSp s i).1 ≤ s.size := by
  have h1 := codeTo_room s i h 15
  have h2 := codeTo_range s i 15 (Nat.le_refl _)
  unfold codeSp
  simp only
  split
  · simp only; omega
  · simp only; omega

mutual
theorem valSp_place (s : ByteArray) : ∀ (f i : Nat), i ≤ s.size → i ≤ (valSp s f i).1 ∧ (valSp s f i).1 ≤ s.size
  | 0, i, h => by rw [valSp]; exact ⟨Nat.le_refl _, h⟩
  | f + 1, i, h => by
    rw [valSp]
    split
    · rename_i e
      have hi : i < s.size := pk_lt (by rw [e]; decide)
      have := numSp_place s (-2147483648) 2147483647 (i + 1) (by omega)
      simp only; omega
    · split
      · exact numSp_place s _ _ i h
      · split
        · rename_i e
          exact strSp_place s i (pk_lt (by rw [e]; decide))
        · split
          · rename_i e
            have hi : i < s.size := pk_lt (by rw [e]; decide)
            split
            · rename_i e2
              have hi2 : i + 1 < s.size := pk_lt (by rw [e2]; decide)
              simp only; omega
            · have := lstSp_place s f (i + 1) .nil (by omega)
              simp only; omega
          · exact codeSp_place s i h
theorem lstSp_place (s : ByteArray) : ∀ (f i : Nat) (acc : VL), i ≤ s.size → i ≤ (lstSp s f i acc).1 ∧ (lstSp s f i acc).1 ≤ s.size
  | 0, i, acc, h => by rw [lstSp]; exact ⟨Nat.le_refl _, h⟩
  | f + 1, i, acc, h => by
    have hv := valSp_place s f i h
    rw [lstSp]
    split
    · exact hv
    · split
      · rename_i e
        have hi : (valSp s f i).1 < s.size := pk_lt (by rw [e]; decide)
        split
        · rename_i e2
          have hi2 : (valSp s f i).1 + 1 < s.size := pk_lt (by rw [e2]; decide)
          have := lstSp_place s f ((valSp s f i).1 + 2) (acc.app (valSp s f i).2.2) (by omega)
          omega
        · simp only; omega
      · split
        · rename_i e
          have hi : (valSp s f i).1 < s.size := pk_lt (by rw [e]; decide)
          simp only; omega
        · exact hv
end

/-- One value comes out. -/
theorem valSp_one (s : ByteArray) (f i : Nat) (h : (valSp s f i).2.1 = true) : ∃ k n t sub, (valSp s f i).2.2 = val1 k n t sub := by
  cases f with
  | zero => rw [valSp] at h; cases h
  | succ f =>
    rw [valSp] at h ⊢
    split
    · exact ⟨_, _, _, _, rfl⟩
    · split
      · exact ⟨_, _, _, _, rfl⟩
      · split
        · exact ⟨_, _, _, _, rfl⟩
        · split
          · split <;> exact ⟨_, _, _, _, rfl⟩
          · exact ⟨_, _, _, _, rfl⟩
end Go.Proofs.YtggngahmafbihaaGreatDoor
