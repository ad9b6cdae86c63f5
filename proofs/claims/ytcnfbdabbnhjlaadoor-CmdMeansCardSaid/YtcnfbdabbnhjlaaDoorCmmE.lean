/- Contracts of the functions that the statement reaches, and the plain mathematics beneath: several texts joined. -/
import Derived.Test.YtcnfbdabbnhjlaaDoorCmmD
import Derived.Test.YtcnfbdabbnhjlaaDoorCmmA
import Derived.Test.YtcnfbdabbnhjlaaDoorCmmC
import Derived.Deep.RegionHeld3
import Derived.StillTailTactics
import Derived.IntWalk
import Derived.Deep.DeepCutAuto
import Derived.Test.YtcnfbdabbnhjlaaDoorCmmB
namespace Go.Proofs.YtcnfbdabbnhjlaaDoor
open Go.RowKit Go.Lib
set_option linter.unusedVariables false

/-- Two rows whose elements are of different types are two. -/
theorem own_ne {w : World} {b1 b2 e1 e2 s1 s2 n1 n2 : Nat} {v1 v2 : Value} {x1 x2 : List Value} (h1 : w.ownsRow b1 e1 s1 v1 n1 x1) (h2 : w.ownsRow b2 e2 s2 v2 n2 x2) (hne : e1 ≠ e2) : v1.ownBlock = none ∨ v1.ownBlock ≠ v2.ownBlock := by
  rcases h1.2 with ⟨rfl, _⟩ | ⟨g, c, cur, rfl, _, hh, _⟩
  · exact .inl rfl
  · rcases h2.2 with ⟨rfl, _⟩ | ⟨g', c', cur', rfl, _, hh', _⟩
    · exact .inr (by simp [Value.ownBlock])
    · refine .inr fun e => ?_
      have : g = g' := by simpa [Value.ownBlock] using e
      subst this
      rw [hh] at hh'
      injection hh' with hh'
      injection hh' with _ ht
      exact hne ht
theorem own_apart {w w' : World} {b e s n : Nat} {v : Value} {xs : List Value} {row : Option Nat} (h : w.ownsRow b e s v n xs) (hg : w.grownBy w' row) (hne : v.ownBlock = none ∨ v.ownBlock ≠ row) : w'.ownsRow b e s v n xs := by
  refine ⟨h.1, ?_⟩
  rcases h.2 with h0 | ⟨g, c, cur, rfl, hb, hh, r⟩
  · exact .inl h0
  · refine .inr ⟨g, c, cur, rfl, hb, ?_, r⟩
    rw [hg.block g (Array.getElem?_eq_some_iff.1 hh).1 (by simpa [Value.ownBlock] using hne)]
    exact hh
theorem splS_nil (i e : Nat) (out : List (List UInt8)) (b : List UInt8) (n q : Bool) : splS [] i out b n q e = (if n then out ++ [b] else out, e) := by rw [splS]
theorem splS_s0 (i e : Nat) (out : List (List UInt8)) (b : List UInt8) (n q : Bool) : splS [92] i out b n q e = (if n then out ++ [b] else out, e) := by
  rw [splS.eq_def]; simp only; rw [if_pos trivial]
theorem drop_cons (s : ByteArray) (i : Nat) (h : i < s.size) : s.data.toList.drop i = s[i] :: s.data.toList.drop (i + 1) := by
  rw [List.drop_eq_getElem_cons (by simpa using h)]; rfl
theorem drop_end (s : ByteArray) (i : Nat) (h : s.size ≤ i) : s.data.toList.drop i = [] := List.drop_eq_nil_of_le (by simpa using h)
/-- What holds at split's loop. -/
structure SpInv (base : Nat) (w0 wr : World) (ov bv : Value) (outs : List (List UInt8)) (bs : List UInt8) : Prop where
  o : wr.ownsRow base 9 1 ov outs.length (strs outs)
  b : wr.ownsRow base 5 1 bv bs.length (u8s bs)
  below : Below base w0 wr
  size : base ≤ wr.heap.size
theorem SpInv.alloc {base : Nat} {w0 wr : World} {ov bv : Value} {outs : List (List UInt8)} {bs : List UInt8} (h : SpInv base w0 wr ov bv outs bs) (x : Obj) : SpInv base w0 (wr.alloc x) ov bv outs bs :=
  ⟨h.o.alloc x, h.b.alloc x, h.below.alloc h.size x, by have := h.size; simp; omega⟩
theorem SpInv.byte {base : Nat} {w0 wr w5 : World} {ov bv bv' : Value} {outs : List (List UInt8)} {bs : List UInt8} {y : UInt8} (h : SpInv base w0 wr ov bv outs bs) (hown : w5.ownsRow base 5 1 bv' (bs.length + 1) (u8s bs ++ [.int .u8 y.toNat])) (hg : wr.grownBy w5 bv.ownBlock) : SpInv base w0 w5 ov bv' outs (bs ++ [y]) :=
  ⟨own_apart h.o hg (own_ne h.o h.b (by decide)), own_snoc hown, grown_below h.below h.size hg (fun k hk => own_ge h.b k hk), Nat.le_trans h.size hg.size⟩
theorem SpInv.word {base : Nat} {w0 wr w5 : World} {ov bv ov' : Value} {outs : List (List UInt8)} {bs : List UInt8} {x : List UInt8} (h : SpInv base w0 wr ov bv outs bs) (hown : w5.ownsRow base 9 1 ov' (outs.length + 1) (strs outs ++ [.string ⟨x.toArray⟩])) (hg : wr.grownBy w5 ov.ownBlock) : SpInv base w0 w5 ov' (.slice none 0 0) (outs ++ [x]) [] :=
  ⟨strs_snoc hown, World.ownsRow_nil _ _ _ _, grown_below h.below h.size hg (fun k hk => own_ge h.o k hk), Nat.le_trans h.size hg.size⟩

/-- What split leaves: its words in a row of the call's own. -/
def SplOut (s : ByteArray) (w : World) (e : Ending) (w' : World) : Prop :=
  ∃ (V : Value) (outs : List (List UInt8)) (en : Nat), e = .returned (.tuple #[V, .int .i64 (en : Int)]) ∧ splS s.data.toList 0 [] [] false false s.size = (outs, en) ∧ en ≤ s.size ∧ outs.length ≤ s.size + 2 ∧ w'.ownsRow w.heap.size 9 1 V outs.length (strs outs) ∧ Below w.heap.size w w'

set_option maxRecDepth 100000 in
set_option maxHeartbeats 4000000 in
theorem split_c (s : ByteArray) (w : World) (hs : s.size ≤ 1000000) : Calls Tryd.prog 15 #[.string s] w (SplOut s w) := by
  obtain ⟨i0, hi0, hz0, hz1, hz2⟩ := info_parts u8_info
  obtain ⟨j0, hj0, hy0, hy1, hy2⟩ := info_parts str_info
  go_enter Tryd.func15, Tryd.ntmps15
  go_wp2_with fail
  go_loopg [4, 5, 6, 7, 8, 9] (s.size + 1) (fun kk ov bv iv qv ev iw wr => ∃ (outs : List (List UInt8)) (bs : List UInt8) (inw q : Bool) (en i : Nat), iv = .bool inw ∧ qv = .bool q ∧ ev = .int .i64 (en : Int) ∧ iw = .int .i64 (i : Int) ∧ i + kk = s.size + 1 ∧ en ≤ s.size ∧ outs.length ≤ i ∧ bs.length ≤ i ∧
    Hid (SpInv w.heap.size w wr ov bv outs bs) ∧ Hid (splS s.data.toList 0 [] [] false false s.size = splS (s.data.toList.drop i) i outs bs inw q en))
  case atStart => exact ⟨[], [], false, false, s.size, 0, rfl, rfl, rfl, rfl, by omega, Nat.le_refl _, Nat.zero_le _, Nat.zero_le _, Lib.hid ⟨World.ownsRow_nil _ _ _ _, World.ownsRow_nil _ _ _ _, Below.refl _ _, Nat.le_refl _⟩, Lib.hid rfl⟩
  case round =>
    obtain ⟨outs, bs, inw, q, en, i, rfl, rfl, rfl, rfl, hk, hen, hol, hbl, HI, HQ⟩ := hrel
    obtain ⟨ov, hov⟩ : ∃ ov, ov = u4 := ⟨_, rfl⟩
    obtain ⟨bv, hbv⟩ : ∃ bv, bv = u5 := ⟨_, rfl⟩
    subst hov hbv
    by_cases hi : i < s.size
    · obtain ⟨kk, rfl⟩ : ∃ kk, gk = kk + 1 := ⟨gk - 1, by omega⟩
      have hq := HQ.out
      rw [drop_cons s i hi] at hq
      by_cases h92 : s[i] = 92
      · have t1 : ((s[i].toNat : Int) == 92) = true := by rw [h92]; rfl
        by_cases hi1 : i + 1 < s.size
        · have hq2 := Lib.hid (hq.trans (by rw [h92, drop_cons s (i + 1) hi1, splS_s]))
          have hlt : (i : Int) + 1 < (s.size : Int) := by omega
          obtain ⟨kk, rfl⟩ : ∃ kk', kk = kk' + 1 := ⟨kk - 1, by omega⟩
          clear hq h92 HQ
          go_wp2_with (at_builtin; refine wpList_append_own _ rfl _ _ 57 rfl w.heap.size 5 i0 (.int .u8 0) 1 1 Tryd.underlying57 hi0 hz0 hz1 hz2 rfl (by decide) bv bs.length (u8s bs) rfl (HI.out.alloc _).b ⟨wr.heap.size, 0, none⟩ 1 1 [.int .u8 (s[i + 1]).toNat] rfl rfl ?c1 ?c2 ?c3 ?c4 ?c5 ?_
                       case c1 => exact cell_one_new _ _ _
                       case c2 => intro u hu; simp at hu; subst hu; rfl
                       case c3 => unfold maxLen; omega
                       case c4 => omega
                       case c5 => have := HI.out.size; simp; omega
                       intro v' w5 hown hgrow _
                       have HI5 := Lib.hid ((HI.out.alloc _).byte hown hgrow)
                       clear hown hgrow)
          go_roundg kk
          case measure => omega
          case rel => exact ⟨outs, bs ++ [s[i + 1]], true, q, en, i + 2, rfl, rfl, rfl, by go_num, by omega, hen, by omega, by simp; omega, HI5, hq2⟩
        · have hq2 := Lib.hid (hq.trans (by rw [h92, drop_end s (i + 1) (by omega), splS_s0, ← splS_nil (i + 2) en outs bs inw q, ← drop_end s (i + 2) (by omega)]))
          have hlt : ¬ (i : Int) + 1 < (s.size : Int) := by omega
          obtain ⟨kk', hkk⟩ : ∃ kk', kk' = kk - 1 := ⟨_, rfl⟩
          clear hq h92 HQ
          go_wp2_with fail
          go_roundg kk'
          case measure => omega
          case rel => exact ⟨outs, bs, inw, q, en, i + 2, rfl, rfl, rfl, by go_num, by omega, hen, by omega, by omega, HI, hq2⟩
      obtain ⟨t1, t1'⟩ := ne_byte (x := s[i]) 92 92 rfl h92
      by_cases h34 : s[i] = 34
      · have t2 : ((s[i].toNat : Int) == 34) = true := by rw [h34]; rfl
        have hq2 := Lib.hid (hq.trans (by rw [h34, splS_q]))
        clear hq h34 HQ h92
        go_wp2_with fail
        go_roundg kk
        case measure => omega
        case rel => exact ⟨outs, bs, true, !q, en, i + 1, rfl, rfl, rfl, by go_num, by omega, hen, by omega, by omega, HI, hq2⟩
      obtain ⟨t2, t2'⟩ := ne_byte (x := s[i]) 34 34 rfl h34
      by_cases h32 : s[i] = 32
      · have t3 : ((s[i].toNat : Int) == 32) = true := by rw [h32]; rfl
        cases q with
        | true =>
          have hq2 := Lib.hid (hq.trans (by rw [splS_c _ _ _ _ _ _ _ h92 h34 (by simp)]))
          clear hq h92 h34 h32 HQ
          go_wp2_with (at_builtin; refine wpList_append_own _ rfl _ _ 57 rfl w.heap.size 5 i0 (.int .u8 0) 1 1 Tryd.underlying57 hi0 hz0 hz1 hz2 rfl (by decide) bv bs.length (u8s bs) rfl (HI.out.alloc _).b ⟨wr.heap.size, 0, none⟩ 1 1 [.int .u8 (s[i]).toNat] rfl rfl ?c1 ?c2 ?c3 ?c4 ?c5 ?_
                       case c1 => exact cell_one_new _ _ _
                       case c2 => intro u hu; simp at hu; subst hu; rfl
                       case c3 => unfold maxLen; omega
                       case c4 => omega
                       case c5 => have := HI.out.size; simp; omega
                       intro v' w5 hown hgrow _
                       have HI5 := Lib.hid ((HI.out.alloc _).byte hown hgrow)
                       clear hown hgrow)
          go_roundg kk
          case measure => omega
          case rel => exact ⟨outs, bs ++ [s[i]], true, true, en, i + 1, rfl, rfl, rfl, by go_num, by omega, hen, by omega, by simp; omega, HI5, hq2⟩
        | false =>
          cases inw with
          | false =>
            have hq2 := Lib.hid (hq.trans (by rw [h32, splS_b, if_neg (by decide)]))
            clear hq h92 h34 h32 HQ
            go_wp2_with fail
            go_roundg kk
            case measure => omega
            case rel => exact ⟨outs, bs, false, false, en, i + 1, rfl, rfl, rfl, by go_num, by omega, hen, by omega, by omega, HI, hq2⟩
          | true =>
            have CV := conv_text wr w.heap.size bv bs HI.out.b
            obtain ⟨ov1, ov2, hov⟩ := own_form HI.out.o
            subst hov
            by_cases ho : outs = []
            · have t4 : ((outs.length : Int) == 0) = true := by rw [ho]; rfl
              have hq2 := Lib.hid (hq.trans (by rw [h32, splS_b, if_pos rfl, if_pos ho]))
              clear hq h92 h34 h32 HQ ho
              go_wp2_with (at_builtin; refine wpList_append_own _ rfl _ _ 22 rfl w.heap.size 9 j0 (.string ⟨#[]⟩) 1 16 Tryd.underlying22 hj0 hy0 hy1 hy2 rfl (by decide) (.slice ov1 outs.length ov2) outs.length (strs outs) rfl (HI.out.alloc _).o ⟨wr.heap.size, 0, none⟩ 1 1 [.string ⟨bs.toArray⟩] rfl rfl ?c1 ?c2 ?c3 ?c4 ?c5 ?_
                           case c1 => exact cell_one_new _ _ _
                           case c2 => intro u hu; simp at hu; subst hu; rfl
                           case c3 => unfold maxLen; omega
                           case c4 => omega
                           case c5 => have := HI.out.size; simp; omega
                           intro v' w5 hown hgrow _
                           have HI5 := Lib.hid ((HI.out.alloc _).word hown hgrow)
                           clear hown hgrow)
              go_roundg kk
              case measure => omega
              case rel => exact ⟨outs ++ [bs], [], false, false, i, i + 1, rfl, rfl, rfl, by go_num, by omega, by omega, by simp; omega, by simp, HI5, hq2⟩
            · have t4 : ((outs.length : Int) == 0) = false := by
                rw [beq_eq_false_iff_ne]; intro e; exact ho (List.eq_nil_of_length_eq_zero (by omega))
              have hq2 := Lib.hid (hq.trans (by rw [h32, splS_b, if_pos rfl, if_neg ho]))
              clear hq h92 h34 h32 HQ ho
              go_wp2_with (at_builtin; refine wpList_append_own _ rfl _ _ 22 rfl w.heap.size 9 j0 (.string ⟨#[]⟩) 1 16 Tryd.underlying22 hj0 hy0 hy1 hy2 rfl (by decide) (.slice ov1 outs.length ov2) outs.length (strs outs) rfl (HI.out.alloc _).o ⟨wr.heap.size, 0, none⟩ 1 1 [.string ⟨bs.toArray⟩] rfl rfl ?c1 ?c2 ?c3 ?c4 ?c5 ?_
                           case c1 => exact cell_one_new _ _ _
                           case c2 => intro u hu; simp at hu; subst hu; rfl
                           case c3 => unfold maxLen; omega
                           case c4 => omega
                           case c5 => have := HI.out.size; simp; omega
                           intro v' w5 hown hgrow _
                           have HI5 := Lib.hid ((HI.out.alloc _).word hown hgrow)
                           clear hown hgrow)
              go_roundg kk
              case measure => omega
              case rel => exact ⟨outs ++ [bs], [], false, false, en, i + 1, rfl, rfl, rfl, by go_num, by omega, hen, by simp; omega, by simp, HI5, hq2⟩
      · obtain ⟨t3, t3'⟩ := ne_byte (x := s[i]) 32 32 rfl h32
        have hq2 := Lib.hid (hq.trans (by rw [splS_c _ _ _ _ _ _ _ h92 h34 (fun h => h32 h.1)]))
        clear hq h92 h34 h32 HQ
        go_wp2_with (at_builtin; refine wpList_append_own _ rfl _ _ 57 rfl w.heap.size 5 i0 (.int .u8 0) 1 1 Tryd.underlying57 hi0 hz0 hz1 hz2 rfl (by decide) bv bs.length (u8s bs) rfl (HI.out.alloc _).b ⟨wr.heap.size, 0, none⟩ 1 1 [.int .u8 (s[i]).toNat] rfl rfl ?c1 ?c2 ?c3 ?c4 ?c5 ?_
                     case c1 => exact cell_one_new _ _ _
                     case c2 => intro u hu; simp at hu; subst hu; rfl
                     case c3 => unfold maxLen; omega
                     case c4 => omega
                     case c5 => have := HI.out.size; simp; omega
                     intro v' w5 hown hgrow _
                     have HI5 := Lib.hid ((HI.out.alloc _).byte hown hgrow)
                     clear hown hgrow)
        go_roundg kk
        case measure => omega
        case rel => exact ⟨outs, bs ++ [s[i]], true, q, en, i + 1, rfl, rfl, rfl, by go_num, by omega, hen, by omega, by simp; omega, HI5, hq2⟩
    · have hq := HQ.out
      rw [drop_end s i (by omega), splS_nil] at hq
      have hin : ¬ (i : Int) < (s.size : Int) := by omega
      cases inw with
      | false =>
        have hq2 := Lib.hid (hq.trans (by rw [if_neg (by decide)]))
        clear hq HQ
        go_wp2_with fail
        go_ret2
        exact ⟨_, outs, en, rfl, hq2.out, hen, by omega, HI.out.o, HI.out.below⟩
      | true =>
        have CV := conv_text wr w.heap.size bv bs HI.out.b
        have hq2 := Lib.hid (hq.trans (by rw [if_pos rfl]))
        clear hq HQ
        go_wp2_with (at_builtin; refine wpList_append_own _ rfl _ _ 22 rfl w.heap.size 9 j0 (.string ⟨#[]⟩) 1 16 Tryd.underlying22 hj0 hy0 hy1 hy2 rfl (by decide) ov outs.length (strs outs) rfl (HI.out.alloc _).o ⟨wr.heap.size, 0, none⟩ 1 1 [.string ⟨bs.toArray⟩] rfl rfl ?c1 ?c2 ?c3 ?c4 ?c5 ?_
                     case c1 => exact cell_one_new _ _ _
                     case c2 => intro u hu; simp at hu; subst hu; rfl
                     case c3 => unfold maxLen; omega
                     case c4 => omega
                     case c5 => have := HI.out.size; simp; omega
                     intro v' w5 hown hgrow _
                     have HI5 := Lib.hid ((HI.out.alloc _).word hown hgrow)
                     clear hown hgrow)
        go_ret2
        exact ⟨_, outs ++ [bs], en, rfl, hq2.out, hen, by simp; omega, HI5.out.o, HI5.out.below⟩
end Go.Proofs.YtcnfbdabbnhjlaaDoor
namespace Go.Proofs.YtcnfbdabbnhjlaaDoor
open Go.RowKit Go.Lib
set_option linter.unusedVariables false

theorem size_listE (s : ByteArray) : s.size = s.data.toList.length := by rw [Array.length_toList]; rfl
theorem lower_c (s : ByteArray) (w : World) (hs : s.size ≤ 1000000) : Calls Tryd.prog 27 #[.string s] w fun e w' => e = .returned (.string ⟨(lowS s.data.toList).toArray⟩) ∧ Below w.heap.size w w' := by
  have LC := Lib.hid (fun W => letters_c s W hs)
  go_enter Tryd.func27, Tryd.ntmps27
  go_wp2_with fail
  refine (LC.out _).mono ?_
  rintro e w1 ⟨rfl, hb⟩
  have HB := Lib.hid hb
  clear hb
  go_wp2_with fail
  go_ret
  exact ⟨rfl, HB.out⟩
theorem one_nil (F : Value) (w : World) : Calls Tryd.prog 35 #[.slice none 0 0, F] w fun e w' => e = .returned (.tuple #[.int .i64 (-3), .bool false]) ∧ w = w' := by
  go_enter Tryd.func35, Tryd.ntmps35
  go_wp2_with fail
  go_loopg [6, 7, 9, 12] 0 (fun kk a b c iv wr => a = .int .i64 (-3) ∧ b = .bool false ∧ iv = .int .i64 0 ∧ w = wr)
  case atStart => exact ⟨rfl, rfl, rfl, rfl⟩
  case round =>
    obtain ⟨rfl, rfl, rfl, rfl⟩ := hrel
    go_wp2_with fail
    go_ret2
    exact ⟨rfl, rfl⟩
theorem index_nil (F : Value) (w : World) : Calls Tryd.prog 52 #[.slice none 0 0, F] w fun e w' => e = .returned (.int .i64 (-1)) ∧ w = w' := by
  go_enter Tryd.func52, Tryd.ntmps52
  go_wp2_with fail
  go_loopg [5, 8] 0 (fun kk a iv wr => iv = .int .i64 0 ∧ w = wr)
  case atStart => exact ⟨rfl, rfl⟩
  case round =>
    obtain ⟨rfl, rfl⟩ := hrel
    go_wp2_with fail
    go_ret
    exact ⟨rfl, rfl⟩
theorem cf_nil (F : Value) (w : World) : Calls Tryd.prog 33 #[.slice none 0 0, F] w fun e w' => e = .returned (.bool false) ∧ w = w' := by
  have IC := Lib.hid (index_nil F)
  go_enter Tryd.func33, Tryd.ntmps33
  go_wp2_with fail
  refine (IC.out _).mono ?_
  rintro e w1 ⟨rfl, rfl⟩
  go_wp2_with fail
  go_ret
  exact ⟨rfl, rfl⟩

/-- What a reading shows, in brief: a value and whether it is an Obj, or an error. -/
def RdBrief (w : World) (e : Ending) (w' : World) : Prop :=
  Below w.heap.size w w' ∧ ((∃ (k n : Int) (t : ByteArray) (sa : Option Addr) (m sc : Nat), e = .returned (.tuple #[.agg #[.int .i64 k, .int .i64 n, .string t, .slice sa m sc], .nilIface])) ∨
    ∃ (T : TypeId) (A : Addr), e = .returned (.tuple #[.agg #[.int .i64 0, .int .i64 0, .string ⟨#[]⟩, .slice none 0 0], .iface T (.pointer (some A))]))
theorem read_brief (s : ByteArray) (ea : Nat → Addr) (w : World) (he : ErrsAt w ea) (hs : s.size ≤ 1000000000) : Calls Tryd.prog 32 #[.string s] w (RdBrief w) :=
  (read_c s ea w he hs).mono fun e w' h => by
    obtain ⟨hb, h⟩ := h
    refine ⟨hb, ?_⟩
    rcases h with ⟨_, A, _, _, rfl⟩ | ⟨_, k, n, t, sub, _, h⟩
    · exact .inr ⟨_, _, rfl⟩
    · rcases h with ⟨hne, rfl⟩ | ⟨_, sa, sc, _, _, rfl⟩
      · exact .inr ⟨157, ea (walk1 k n t sub 1 4096).1, by rw [errV, if_neg hne]⟩
      · exact .inl ⟨_, _, _, _, _, _, rfl⟩
set_option maxRecDepth 100000 in
set_option maxHeartbeats 2000000 in
theorem obj_nil (s : ByteArray) (ea : Nat → Addr) (w : World) (he : ErrsAt w ea) (hs : s.size ≤ 1000000) :
    Calls Tryd.prog 19 #[.string s, .slice none 0 0] w fun e w' => e = .returned (.int .i64 (if s.data.toList = [] then -1 else -3)) ∧ Below w.heap.size w w' := by
  by_cases h0 : s.data.toList = []
  · rw [if_pos h0]
    have h0' : s.toList.isEmpty = true := by rw [Lib.toList_data, h0]; rfl
    have hsz : s.size = 0 := by rw [size_listE, h0]; rfl
    go_enter Tryd.func19, Tryd.ntmps19
    go_wp2_with fail
    go_ret
    exact ⟨rfl, Below.refl _ _⟩
  · rw [if_neg h0]
    have h0' : s.toList.isEmpty = false := by rw [Lib.toList_data]; cases hq : s.data.toList with | nil => exact absurd hq h0 | cons => rfl
    have hsz : 0 < s.size := by rw [size_listE]; exact List.length_pos_iff.2 h0
    have hszI : (0 : Int) < (s.size : Int) := by omega
    have RC := Lib.hid (read_brief s ea w he (by omega))
    have LW := Lib.hid (fun W => lower_c s W hs)
    have ON := Lib.hid one_nil
    have CN := Lib.hid cf_nil
    have HEMP := Lib.hid h0
    clear h0 he
    by_cases h35 : s[0] = 35
    · have t1 : ((s[0].toNat : Int) == 35) = true := by rw [h35]; rfl
      clear h35
      go_enter Tryd.func19, Tryd.ntmps19
      go_wp2_with fail
      refine RC.out.mono ?_
      rintro e w1 ⟨hb1, h⟩
      have HB1 := Lib.hid hb1
      clear hb1
      rcases h with ⟨k, n, t, sa, m, sc, rfl⟩ | ⟨T, A, rfl⟩
      · by_cases hk : k = 1
        · have t2 : (k == 1) = true := by rw [hk]; rfl
          clear hk
          go_wp2_with fail
          refine (CN.out _ _).mono ?_
          rintro e w2 ⟨rfl, rfl⟩
          go_wp2_with fail
          go_ret
          exact ⟨rfl, HB1.out.alloc HB1.out.size _⟩
        · have t2 : (k == 1) = false := by rw [beq_eq_false_iff_ne]; exact hk
          clear hk
          go_wp2_with fail
          refine (LW.out _).mono ?_
          rintro e w2 ⟨rfl, hb2⟩
          have HB2 := Lib.hid (HB1.out.trans (below_le' (Below.trans ((Below.refl _ _).alloc (Nat.le_refl _) _) (below_le' hb2 (by simp))) HB1.out.size))
          clear hb2
          go_wp2_with fail
          refine (ON.out _ _).mono ?_
          rintro e w3 ⟨rfl, rfl⟩
          go_wp2_with fail
          refine (ON.out _ _).mono ?_
          rintro e w3 ⟨rfl, rfl⟩
          go_wp2_with fail
          go_ret
          exact ⟨rfl, HB2.out.alloc HB2.out.size _⟩
      · go_wp2_with fail
        refine (LW.out _).mono ?_
        rintro e w2 ⟨rfl, hb2⟩
        have HB2 := Lib.hid (HB1.out.trans (below_le' (Below.trans ((Below.refl _ _).alloc (Nat.le_refl _) _) (below_le' hb2 (by simp))) HB1.out.size))
        clear hb2
        go_wp2_with fail
        refine (ON.out _ _).mono ?_
        rintro e w3 ⟨rfl, rfl⟩
        go_wp2_with fail
        refine (ON.out _ _).mono ?_
        rintro e w3 ⟨rfl, rfl⟩
        go_wp2_with fail
        go_ret
        exact ⟨rfl, HB2.out.alloc HB2.out.size _⟩
    · obtain ⟨t1, t1'⟩ := ne_byte (x := s[0]) 35 35 rfl h35
      clear h35
      go_enter Tryd.func19, Tryd.ntmps19
      go_wp2_with fail
      refine (LW.out _).mono ?_
      rintro e w2 ⟨rfl, hb2⟩
      have HB2 := Lib.hid hb2
      clear hb2
      go_wp2_with fail
      refine (ON.out _ _).mono ?_
      rintro e w3 ⟨rfl, rfl⟩
      go_wp2_with fail
      refine (ON.out _ _).mono ?_
      rintro e w3 ⟨rfl, rfl⟩
      go_wp2_with fail
      go_ret
      exact ⟨rfl, HB2.out.alloc HB2.out.size _⟩
end Go.Proofs.YtcnfbdabbnhjlaaDoor
namespace Go.Proofs.YtcnfbdabbnhjlaaDoor
open Go.RowKit Go.Lib
set_option linter.unusedVariables false

/-- Texts in a row of memory, wherever it begins; none: the row may be anywhere. -/
def StrO (w : World) (A : Option Addr) (l : List (List UInt8)) : Prop := l = [] ∨ ∃ g o, A = some ⟨g, o, none⟩ ∧ g < w.heap.size ∧ ∀ j x, l[j]? = some x → w.cell? ⟨g, o + j, none⟩ = some (.string ⟨x.toArray⟩)
theorem StrO.below {w w' : World} {A : Option Addr} {l : List (List UInt8)} (h : StrO w A l) (hb : Below w.heap.size w w') : StrO w' A l := by
  rcases h with h | ⟨g, o, hA, hg, hc⟩
  · exact .inl h
  · exact .inr ⟨g, o, hA, Nat.lt_of_lt_of_le hg hb.size, fun j x hj => (hb.cell (p := ⟨g, o + j, none⟩) hg).trans (hc j x hj)⟩
theorem StrO.take {w : World} {A : Option Addr} {l : List (List UInt8)} (h : StrO w A l) (n : Nat) : StrO w A (l.take n) := by
  rcases h with rfl | ⟨g, o, hA, hg, hc⟩
  · exact .inl (by simp)
  · refine .inr ⟨g, o, hA, hg, fun j x hj => hc j x ?_⟩
    rw [List.getElem?_take] at hj
    split at hj
    · exact hj
    · cases hj
theorem StrO.drop {w : World} {g o : Nat} {l : List (List UInt8)} (h : StrO w (some ⟨g, o, none⟩) l) (n : Nat) : StrO w (some ⟨g, o + n, none⟩) (l.drop n) := by
  rcases h with rfl | ⟨g', o', hA, hg, hc⟩
  · exact .inl (by simp)
  · injection hA with hA
    injection hA with h1 h2
    subst h1 h2
    refine .inr ⟨g, o + n, rfl, hg, fun j x hj => ?_⟩
    rw [Nat.add_assoc]
    exact hc (n + j) x (by rwa [List.getElem?_drop] at hj)
theorem strO_own {w : World} {base n c : Nat} {A : Option Addr} {l : List (List UInt8)} (h : w.ownsRow base 9 1 (.slice A n c) l.length (strs l)) : StrO w A l := by
  rcases h.2 with ⟨_, h0⟩ | ⟨g, cap, cur, hv, hb, hh, _⟩
  · exact .inl (List.eq_nil_of_length_eq_zero h0)
  · have hA : A = some ⟨g, 0, none⟩ := by injection hv
    subst hA
    refine .inr ⟨g, 0, rfl, (Array.getElem?_eq_some_iff.1 hh).1, fun j x hj => ?_⟩
    have := h.cells (g := g) rfl j (.string ⟨x.toArray⟩) (by unfold strs; rw [List.getElem?_map, hj]; rfl)
    have hadd : (⟨g, 0, none⟩ : Addr).add j = ⟨g, 0 + j, none⟩ := by unfold Addr.add; split <;> simp_all
    rw [hadd] at this; exact this

/-- Texts joined. -/
theorem join_o {W : World} {A : Option Addr} {cap : Nat} {l : List (List UInt8)} (sep : ByteArray) (h : StrO W A l) (hc : l.length ≤ cap) (hn : l.length ≤ 140737488355328) (hl : (join l sep.data.toList).length ≤ 140737488355328) :
    Calls Tryd.prog 17 #[.slice A l.length cap, .string sep] W fun e w' => e = .returned (.string ⟨(join l sep.data.toList).toArray⟩) ∧ Below W.heap.size W w' := by
  have hmap : (l.map fun x => (⟨x.toArray⟩ : ByteArray)).map (fun b => b.data.toList) = l := by
    rw [List.map_map]
    conv => rhs; rw [← List.map_id l]
    rfl
  rcases h with rfl | ⟨g, o, rfl, hg, hcell⟩
  · exact (Tryd.strings_Join_none A cap sep W).mono fun e w' ⟨he, hw⟩ => ⟨he, by rw [hw]; exact Below.refl _ _⟩
  · have J := Tryd.strings_Join g o cap (l.map fun x => (⟨x.toArray⟩ : ByteArray)) sep W (fun j x hx => by
      rw [List.getElem?_map] at hx
      cases hq : l[j]? with
      | none => rw [hq] at hx; cases hx
      | some y => rw [hq] at hx; injection hx with hx; rw [← hx]; exact hcell j y hq) hg (by rw [List.length_map]; exact hn) (by rw [List.length_map]; exact hc) (by rw [hmap]; exact hl)
    rw [List.length_map, hmap] at J
    exact J

/-- The first word that stands between, and which. -/
def prepAt : List (List UInt8) → Option (Nat × List UInt8)
  | [] => none
  | w :: l => if prepsS.contains (lowS w) then some (0, lowS w) else (prepAt l).map fun p => (p.1 + 1, p.2)
def prepV (l : List (List UInt8)) : Value :=
  match prepAt l with
  | none => .tuple #[.int .i64 (-1), .int .i64 (-1), .string ⟨#[]⟩]
  | some p => .tuple #[.int .i64 (p.1 : Int), .int .i64 ((p.1 : Int) + 1), .string ⟨p.2.toArray⟩]
theorem prepAt_lt : ∀ {l : List (List UInt8)} {p : Nat × List UInt8}, prepAt l = some p → p.1 < l.length
  | [], p, h => by cases h
  | w :: l, p, h => by
    rw [prepAt] at h
    split at h
    · injection h with h; rw [← h]; simp
    · cases hq : prepAt l with
      | none => rw [hq] at h; cases h
      | some q =>
        rw [hq] at h
        injection h with h
        have := prepAt_lt hq
        rw [← h]; simpa using this
theorem contains_preps (x : List UInt8) : containsS (prepsL.take 19) (⟨x.toArray⟩ : ByteArray) = prepsS.contains x := by
  rw [show prepsL.take 19 = prepsL from rfl, ← preps_list, Bool.eq_iff_iff, containsS_iff, List.contains_iff_mem, List.mem_map]
  constructor
  · intro h; exact ⟨_, h, rfl⟩
  · rintro ⟨b, hb, he⟩
    have : b = ⟨x.toArray⟩ := by
      cases b with | mk d => simp at he; rw [← he]
    rw [← this]; exact hb
theorem prepAt_drop (l : List (List UInt8)) (i : Nat) (x : List UInt8) (h : l[i]? = some x) : prepAt (l.drop i) = if prepsS.contains (lowS x) then some (0, lowS x) else (prepAt (l.drop (i + 1))).map fun p => (p.1 + 1, p.2) := by
  have hi : i < l.length := by
    rcases Nat.lt_or_ge i l.length with hlt | hge
    · exact hlt
    · rw [List.getElem?_eq_none hge] at h; cases h
  rw [List.getElem?_eq_getElem hi] at h
  injection h with h
  rw [List.drop_eq_getElem_cons hi, h, prepAt]

set_option maxRecDepth 100000 in
set_option maxHeartbeats 2000000 in
theorem prep_c (A : Option Addr) (cap : Nat) (l : List (List UInt8)) (w : World) (ht : SpaceAt w) (hr : 10 < w.heap.size) (h : StrO w A l) (hn : l.length ≤ 1000000) (hz : ∀ x ∈ l, x.length ≤ 1000000) :
    Calls Tryd.prog 16 #[.slice A l.length cap] w fun e w' => e = .returned (prepV l) ∧ Below w.heap.size w w' := by
  have PC := Lib.hid (preps_c w ht)
  clear ht
  obtain ⟨v, hv⟩ : ∃ v, v = prepV l := ⟨_, rfl⟩
  rw [← hv]
  have HV := Lib.hid hv
  have HH := Lib.hid h
  have HZ := Lib.hid hz
  clear hv h hz
  go_enter Tryd.func16, Tryd.ntmps16
  go_wp2_with fail
  refine PC.out.mono ?_
  rintro e w1 ⟨g, rfl, hg1, hg2, hst, hb1⟩
  have HB1 := Lib.hid hb1
  have HST := Lib.hid hst
  clear hst hb1
  go_wp2_with fail
  go_loopg [6, 7, 8, 12] l.length (fun kk iv wv pv rv wr => ∃ i : Nat, rv = .int .i64 (i : Int) ∧ i + kk = l.length ∧ Hid (Below w1.heap.size w1 wr) ∧ Hid (prepAt l = (prepAt (l.drop i)).map fun p => (p.1 + i, p.2)))
  case atStart => exact ⟨0, rfl, by omega, Lib.hid (Below.refl _ _), Lib.hid (by simp)⟩
  case round =>
    obtain ⟨i, rfl, hk, HB, HQ⟩ := hrel
    by_cases hi : i < l.length
    · obtain ⟨kk, rfl⟩ : ∃ kk, gk = kk + 1 := ⟨gk - 1, by omega⟩
      obtain ⟨x, hx⟩ : ∃ x, l[i]? = some x := ⟨_, List.getElem?_eq_getElem hi⟩
      obtain ⟨ga, o, hA, hga, hcell⟩ : ∃ g o, A = some ⟨g, o, none⟩ ∧ g < w.heap.size ∧ ∀ j x, l[j]? = some x → w.cell? ⟨g, o + j, none⟩ = some (.string ⟨x.toArray⟩) := by
        rcases HH.out with h | h
        · rw [h] at hi; exact absurd hi (Nat.not_lt_zero _)
        · exact h
      subst hA
      have hw1 : w.heap.size ≤ w1.heap.size := HB1.out.size
      have HBW := Lib.hid (show Below w.heap.size w wr from HB1.out.trans (below_le' HB.out hw1))
      have hc : wr.cell? ⟨ga, o + i, none⟩ = some (.string ⟨x.toArray⟩) := (HBW.out.cell (p := ⟨ga, o + i, none⟩) hga).trans (hcell i x hx)
      have hxz : (⟨x.toArray⟩ : ByteArray).size ≤ 1000000 := by
        have := HZ.out x (List.mem_of_getElem? hx)
        simpa [ByteArray.size] using this
      have LC := Lib.hid (lower_c ⟨x.toArray⟩ wr hxz)
      have hgr : g < wr.heap.size := by have := HB.out.size; omega
      have HD := Lib.hid (prepAt_drop l i x hx)
      have SR := Lib.hid (HST.out.below HB.out hg2)
      cases hp : prepsS.contains (lowS x) with
      | true =>
        have KC := Lib.hid (fun W (hW : Below wr.heap.size wr W) => (Tryd.slices_Contains_string g 0 19 19 prepsL ⟨(lowS x).toArray⟩ W (by decide) (by decide) (by exact SR.out.below hW hgr)).mono (R' := fun e W' => e = .returned (.bool true) ∧ W = W') fun e W' h' => ⟨by rw [h'.1, contains_preps, hp], h'.2.symm⟩)
        have HE := Lib.hid (show v = .tuple #[.int .i64 (i : Int), .int .i64 ((i : Int) + 1), .string ⟨(lowS x).toArray⟩] by
          rw [HV.out]; unfold prepV; rw [HQ.out, HD.out, hp, if_pos rfl]; simp)
        clear hp hcell hx
        go_wp2_with fail
        refine LC.out.mono ?_
        rintro e w2 ⟨rfl, hb2⟩
        have HB2 := Lib.hid hb2
        clear hb2
        go_wp2_with fail
        refine (KC.out w2 HB2.out).mono ?_
        rintro e w3 ⟨rfl, rfl⟩
        go_wp2_with fail
        go_ret3
        exact ⟨by rw [HE.out]; rfl, HBW.out.trans (below_le' HB2.out HBW.out.size)⟩
      | false =>
        have KC := Lib.hid (fun W (hW : Below wr.heap.size wr W) => (Tryd.slices_Contains_string g 0 19 19 prepsL ⟨(lowS x).toArray⟩ W (by decide) (by decide) (by exact SR.out.below hW hgr)).mono (R' := fun e W' => e = .returned (.bool false) ∧ W = W') fun e W' h' => ⟨by rw [h'.1, contains_preps, hp], h'.2.symm⟩)
        have HE := Lib.hid (show prepAt l = (prepAt (l.drop (i + 1))).map fun p => (p.1 + (i + 1), p.2) by
          rw [HQ.out, HD.out, hp, if_neg (by decide), Option.map_map]
          congr 1
          funext p
          simp only [Function.comp]
          congr 1
          omega)
        clear hp hcell hx
        go_wp2_with fail
        refine LC.out.mono ?_
        rintro e w2 ⟨rfl, hb2⟩
        have HB2 := Lib.hid hb2
        clear hb2
        go_wp2_with fail
        refine (KC.out w2 HB2.out).mono ?_
        rintro e w3 ⟨rfl, rfl⟩
        go_wp2_with fail
        go_roundg kk
        case measure => omega
        case rel => exact ⟨i + 1, by go_num, by omega, Lib.hid (HB.out.trans (below_le' HB2.out HB.out.size)), HE⟩
    · have hd : l.drop i = [] := List.drop_eq_nil_of_le (by omega)
      have HE := Lib.hid (show v = .tuple #[.int .i64 (-1), .int .i64 (-1), .string ⟨#[]⟩] by
        rw [HV.out]; unfold prepV; rw [HQ.out, hd]; rfl)
      have hge : ¬ (i : Int) < (l.length : Int) := by omega
      have hw1 : w.heap.size ≤ w1.heap.size := HB1.out.size
      clear hd
      go_wp2_with fail
      go_ret3
      exact ⟨by rw [HE.out]; rfl, HB1.out.trans (below_le' HB.out hw1)⟩
end Go.Proofs.YtcnfbdabbnhjlaaDoor
namespace Go.Proofs.YtcnfbdabbnhjlaaDoor
open Go.RowKit Go.Lib
set_option linter.unusedVariables false

/-- The verb that a sign ahead stands for. -/
def shortL : List UInt8 → List UInt8
  | [] => []
  | c :: _ => if c = 34 then [115, 97, 121] else if c = 58 then [101, 109, 111, 116, 101] else []
theorem short_c (s : ByteArray) (w : World) : Calls Tryd.prog 14 #[.string s] w fun e w' => e = .returned (.string ⟨(shortL s.data.toList).toArray⟩) ∧ w = w' := by
  have P1 := Lib.hid (fun W => Tryd.strings_HasPrefix s ⟨#[34]⟩ W)
  have P2 := Lib.hid (fun W => Tryd.strings_HasPrefix s ⟨#[58]⟩ W)
  have e1 : Lib.hasPrefix s.data.toList (⟨#[34]⟩ : ByteArray).data.toList = (s.data.toList.head? == some 34) := by
    cases s.data.toList with
    | nil => rfl
    | cons c r =>
      show ((34 : UInt8) == c && List.isPrefixOf [] r) = (c == 34)
      rw [show List.isPrefixOf [] r = true from rfl, Bool.and_true, Bool.eq_iff_iff, beq_iff_eq, beq_iff_eq]
      exact eq_comm
  have e2 : Lib.hasPrefix s.data.toList (⟨#[58]⟩ : ByteArray).data.toList = (s.data.toList.head? == some 58) := by
    cases s.data.toList with
    | nil => rfl
    | cons c r =>
      show ((58 : UInt8) == c && List.isPrefixOf [] r) = (c == 58)
      rw [show List.isPrefixOf [] r = true from rfl, Bool.and_true, Bool.eq_iff_iff, beq_iff_eq, beq_iff_eq]
      exact eq_comm
  obtain ⟨r, hr⟩ : ∃ r, r = shortL s.data.toList := ⟨_, rfl⟩
  rw [← hr]
  by_cases h1 : s.data.toList.head? = some 34
  · have HV := Lib.hid (show r = [115, 97, 121] by
      rw [hr]; cases hq : s.data.toList with
      | nil => rw [hq] at h1; cases h1
      | cons c l => rw [hq] at h1; injection h1 with h1; subst h1; rfl)
    have Q1 := Lib.hid (fun W => (P1.out W).mono (R' := fun e W' => e = .returned (.bool true) ∧ W = W') fun e W' h => ⟨by rw [h.1, e1, h1]; rfl, h.2.symm⟩)
    clear P1 P2 e1 e2 h1 hr
    go_enter Tryd.func14, Tryd.ntmps14
    go_wp2_with fail
    refine (Q1.out _).mono ?_
    rintro e w1 ⟨rfl, rfl⟩
    go_wp2_with fail
    go_ret
    exact ⟨by rw [HV.out]; rfl, rfl⟩
  · have f1 : (s.data.toList.head? == some 34) = false := by rw [beq_eq_false_iff_ne]; exact h1
    have Q1 := Lib.hid (fun W => (P1.out W).mono (R' := fun e W' => e = .returned (.bool false) ∧ W = W') fun e W' h => ⟨by rw [h.1, e1, f1], h.2.symm⟩)
    by_cases h2 : s.data.toList.head? = some 58
    · have HV := Lib.hid (show r = [101, 109, 111, 116, 101] by
        rw [hr]; cases hq : s.data.toList with
        | nil => rw [hq] at h2; cases h2
        | cons c l => rw [hq] at h2; injection h2 with h2; subst h2; rfl)
      have Q2 := Lib.hid (fun W => (P2.out W).mono (R' := fun e W' => e = .returned (.bool true) ∧ W = W') fun e W' h => ⟨by rw [h.1, e2, h2]; rfl, h.2.symm⟩)
      clear P1 P2 e1 e2 h1 h2 hr f1
      go_enter Tryd.func14, Tryd.ntmps14
      go_wp2_with fail
      refine (Q1.out _).mono ?_
      rintro e w1 ⟨rfl, rfl⟩
      go_wp2_with fail
      refine (Q2.out _).mono ?_
      rintro e w1 ⟨rfl, rfl⟩
      go_wp2_with fail
      go_ret
      exact ⟨by rw [HV.out]; rfl, rfl⟩
    · have f2 : (s.data.toList.head? == some 58) = false := by rw [beq_eq_false_iff_ne]; exact h2
      have HV := Lib.hid (show r = [] by
        rw [hr]; cases hq : s.data.toList with
        | nil => rfl
        | cons c l => rw [hq] at h1 h2; show (if c = 34 then [115, 97, 121] else if c = 58 then [101, 109, 111, 116, 101] else []) = []; rw [if_neg (fun e => h1 (by rw [e]; rfl)), if_neg (fun e => h2 (by rw [e]; rfl))])
      have Q2 := Lib.hid (fun W => (P2.out W).mono (R' := fun e W' => e = .returned (.bool false) ∧ W = W') fun e W' h => ⟨by rw [h.1, e2, f2], h.2.symm⟩)
      clear P1 P2 e1 e2 h1 h2 hr f1 f2
      go_enter Tryd.func14, Tryd.ntmps14
      go_wp2_with fail
      refine (Q1.out _).mono ?_
      rintro e w1 ⟨rfl, rfl⟩
      go_wp2_with fail
      refine (Q2.out _).mono ?_
      rintro e w1 ⟨rfl, rfl⟩
      go_wp2_with fail
      go_ret
      exact ⟨by rw [HV.out]; rfl, rfl⟩

def meL : List UInt8 := [109, 101]
def hereL : List UInt8 := [104, 101, 114, 101]
/-- What a word means, where an object's number is answered for all but two. -/
def meansI (me here : Int) (ob : List UInt8 → Int) (d : List UInt8) : Int := if d = meL then me else if d = hereL then here else ob d
/-- What Object answers in all later worlds. -/
def ObC (T : Value) (ob : List UInt8 → Int) (P : List UInt8 → Prop) (w : World) : Prop := ∀ (d : List UInt8) (W : World), P d → Below w.heap.size w W → d.length ≤ 100000 → Calls Tryd.prog 19 #[.string ⟨d.toArray⟩, T] W fun e w' => e = .returned (.int .i64 (ob d)) ∧ Below W.heap.size W w'
theorem ObC.below {T : Value} {ob : List UInt8 → Int} {P : List UInt8 → Prop} {w w' : World} (h : ObC T ob P w) (hb : Below w.heap.size w w') : ObC T ob P w' := fun d W hP hW hd => h d W hP (hb.trans (below_le' hW hb.size)) hd
set_option maxRecDepth 100000 in
theorem objc_c (d : List UInt8) (T : Value) (me here : Int) (ob : List UInt8 → Int) {P : List UInt8 → Prop} (am ah at_ : Addr) (w : World) (hob : ObC T ob P w) (hm : w.cell? am = some (.int .i64 me)) (hh : w.cell? ah = some (.int .i64 here)) (ht : w.cell? at_ = some T) (hd : d.length ≤ 100000) (hP : d ≠ meL → d ≠ hereL → P d) :
    Calls Tryd.prog 18 #[.string ⟨d.toArray⟩, .pointer (some am), .pointer (some ah), .pointer (some at_)] w fun e w' => e = .returned (.int .i64 (meansI me here ob d)) ∧ Below w.heap.size w w' := by
  obtain ⟨r, hr⟩ : ∃ r, r = meansI me here ob d := ⟨_, rfl⟩
  rw [← hr]
  have OC := Lib.hid (fun h1 h2 => hob d w (hP h1 h2) (Below.refl _ _) hd)
  unfold meansI at hr
  clear hob
  by_cases h1 : d = meL
  · rw [if_pos h1] at hr
    have t1 : (d == [109, 101]) = true := beq_iff_eq.2 h1
    have HR := Lib.hid hr
    clear h1 hr
    go_enter Tryd.func18, Tryd.ntmps18
    go_wp2_with fail
    go_ret
    exact ⟨by rw [HR.out]; rfl, Below.refl _ _⟩
  · rw [if_neg h1] at hr
    have t1 : (d == [109, 101]) = false := beq_eq_false_iff_ne.2 h1
    by_cases h2 : d = hereL
    · rw [if_pos h2] at hr
      have t2 : (d == [104, 101, 114, 101]) = true := beq_iff_eq.2 h2
      have HR := Lib.hid hr
      clear h1 h2 hr
      go_enter Tryd.func18, Tryd.ntmps18
      go_wp2_with fail
      go_ret
      exact ⟨by rw [HR.out]; rfl, Below.refl _ _⟩
    · rw [if_neg h2] at hr
      have t2 : (d == [104, 101, 114, 101]) = false := beq_eq_false_iff_ne.2 h2
      have HR := Lib.hid hr
      have OC2 := Lib.hid (OC.out h1 h2)
      clear h1 h2 hr
      go_enter Tryd.func18, Tryd.ntmps18
      go_wp2_with fail
      refine OC2.out.mono ?_
      rintro e w1 ⟨rfl, hb⟩
      have HB := Lib.hid hb
      clear hb
      go_wp2_with fail
      go_ret
      exact ⟨by rw [HR.out]; rfl, HB.out⟩
end Go.Proofs.YtcnfbdabbnhjlaaDoor
namespace Go.Proofs.YtcnfbdabbnhjlaaDoor
open Go.RowKit Go.Lib
set_option linter.unusedVariables false

theorem quiet_add_left {P : Program} {f : FuncId} {args : Array Value} {w : World} {a n : Nat} {v : Value}
    (h : Calls P f args (w.drewN (a + n)) fun e w' => e = .returned v ∧ w.drewN (a + n) = w') :
    Calls P f args (w.drewN (a + n)) fun e w'' => e = .returned v ∧ ∃ m, w'' = w.drewN (a + m) :=
  h.mono fun _ _ ⟨he, hm⟩ => ⟨he, n, hm.symm⟩
theorem quiet_left {P : Program} {f : FuncId} {args : Array Value} {w : World} {n : Nat} {v : Value}
    (h : Calls P f args (w.drewN n) fun e w' => e = .returned v ∧ w.drewN n = w') : Calls P f args (w.drewN n) fun e w'' => e = .returned v ∧ ∃ m, w'' = w.drewN m :=
  h.mono fun _ _ ⟨he, hm⟩ => ⟨he, n, hm.symm⟩
theorem tab_keep {P : Program} {w w' : World} {n : String} {g : Nat} {k : IntKind} {zs : List Int} (hg : P.globalNamed n = some g) (h : TabIs P w n k zs) (e : w'.heap[g]? = w.heap[g]?) : TabIs P w' n k zs := by
  unfold TabIs World.var? at *
  rw [hg] at h ⊢
  simp only [Option.bind_some] at h ⊢
  rw [e]; exact h
/-- An error around a line. -/
def LxBad (B : Nat) (line : Int) (ev : Value) (e : Ending) (w' : World) : Prop :=
  ∃ A, B ≤ A ∧ w'.heap[A]? = some (.cells #[.int .i64 line, ev] 97 (0, 0)) ∧ e = .returned (.iface 95 (.pointer (some ⟨A, 0, none⟩)))
theorem below_drewN {B : Nat} {w w' : World} (h : Below B w w') (n : Nat) : Below B w (w'.drewN n) := ⟨h.os, h.tape, h.output, h.size, h.block⟩
theorem contains_keys (x : ByteArray) : containsS (keysL.take 19) x = keysL.contains x := by
  have hlaw : ∀ a b : ByteArray, (a == b) = true ↔ a = b := fun a b => by
    show (a.data == b.data) = true ↔ a = b
    rw [beq_iff_eq]
    exact ⟨fun e => by cases a; cases b; simp only at e; rw [e], fun e => by rw [e]⟩
  rw [show keysL.take 19 = keysL from rfl, Bool.eq_iff_iff, containsS_iff, List.contains_iff_exists_mem_beq]
  constructor
  · intro h; exact ⟨x, h, (hlaw x x).2 rfl⟩
  · rintro ⟨y, h1, h2⟩; rw [(hlaw x y).1 h2]; exact h1
theorem sum_in (i n : Nat) (h : i + n ≤ 1000000000) : IntKind.i64.wrap ((i : Int) + (n : Int)) = (i : Int) + (n : Int) ∧ (0 : Int) ≤ (i : Int) + (n : Int) ∧ ((i : Int) + (n : Int)).toNat = i + n := ⟨IntWalk.i64_in _ (by omega), by omega, by omega⟩
section
variable {w w' : World} {g : Nat} {a b c d e f h : Value}
end
theorem cell_below7 {B : Nat} {w w' : World} (hb : Below B w w') {p : Addr} {v : Value} (h : w.cell? p = some v) (hp : p.block < B) : w'.cell? p = some v := (hb.cell hp).trans h
theorem run_le (s : ByteArray) (p : UInt8 → Bool) (i : Nat) (h : i ≤ s.size) : i + run s p i ≤ s.size := runN_le s p _ i h
theorem run_pos (s : ByteArray) (p : UInt8 → Bool) (i : Nat) (h : i < s.size) (hp : p (pk s i) = true) : 1 ≤ run s p i := by
  unfold run; rw [runN_step h hp]; omega
def nameR (s : ByteArray) (i : Nat) (line : Int) : WR :=
  let n := run s (fun c => smB c || digB c) i
  if 32 < n ∨ (i + n < s.size ∧ gtB (pk s (i + n)) = true) then .bad 111
  else .word n ⟨if keysL.contains (s.extract i (i + n)) then 2 else 1, line, s.extract i (i + n), 0, 0, ⟨#[]⟩⟩
theorem wordR_name {s : ByteArray} {i : Nat} {line : Int} (h : smB (pk s i) = true) : wordR s i line = nameR s i line := by
  unfold wordR nameR
  simp only [h, if_true]

end Go.Proofs.YtcnfbdabbnhjlaaDoor
namespace Go.Proofs.YtcnfbdabbnhjlaaDoor
open Go.RowKit Go.Lib
set_option linter.unusedVariables false

theorem space_below {w w' : World} (h : SpaceAt w) (hb : Below w.heap.size w w') (hr : 10 < w.heap.size) : SpaceAt w' := tab_keep (g := 0) rfl h (hb.block _ (Nat.lt_trans (by decide) hr))
/-- A block that is known whole. -/
def Blk (w : World) (g : Nat) (t : TypeId) (cs : Array Value) : Prop := w.heap[g]? = some (.cells cs t (0, 0))
section
variable {w w' : World} {g : Nat} {t : TypeId} {cs : Array Value}
theorem Blk.lt (h : Blk w g t cs) : g < w.heap.size := (Array.getElem?_eq_some_iff.1 h).1
theorem Blk.cell (h : Blk w g t cs) (i : Nat) : w.cell? ⟨g, i, none⟩ = cs[i]? := cell_of_row w g i cs t (0, 0) h
theorem Blk.frozen (h : Blk w g t cs) (i : Nat) : w.frozen? ⟨g, i, none⟩ = false := by
  unfold Blk at h; simp [World.frozen?, h]
theorem Blk.new (w : World) (t : TypeId) (cs : Array Value) : Blk (w.alloc (.cells cs t)) w.heap.size t cs := heap_alloc_new w _
theorem Blk.alloc (h : Blk w g t cs) (o : Obj) : Blk (w.alloc o) g t cs := (Below.heap_alloc w o g h.lt).trans h
theorem Blk.set_ (h : Blk w g t cs) (i : Nat) (u : Value) : Blk (w.setCell ⟨g, i, none⟩ u) g t (cs.setIfInBounds i u) := by
  unfold Blk at h ⊢; simp [World.setCell, Array.getElem?_modify, h]
theorem Blk.far (h : Blk w g t cs) {p : Addr} (hp : g ≠ p.block) (u : Value) : Blk (w.setCell p u) g t cs := (Below.heap_setCell w p u g hp).trans h
theorem Blk.below {B : Nat} (h : Blk w g t cs) (hb : Below B w w') (hg : g < B) : Blk w' g t cs := (hb.block g hg).trans h
end

theorem Blk.set8 {w : World} {g : Nat} {t : TypeId} {a b c d e f h i : Value} (H : Blk w g t #[a, b, c, d, e, f, h, i]) (a' b' c' d' e' f' h' i' : Value) :
    Blk ((((((((w.setCell ⟨g, 0, none⟩ a').setCell ⟨g, 1, none⟩ b').setCell ⟨g, 2, none⟩ c').setCell ⟨g, 3, none⟩ d').setCell ⟨g, 4, none⟩ e').setCell ⟨g, 5, none⟩ f').setCell ⟨g, 6, none⟩ h').setCell ⟨g, 7, none⟩ i') g t #[a', b', c', d', e', f', h', i'] := by
  unfold Blk at H ⊢; simp [World.setCell, Array.getElem?_modify, H]
theorem below_set8 {w w' : World} {B : Nat} (h : Below B w w') {g : Nat} (hg : B ≤ g) (a b c d e f k m : Value) :
    Below B w ((((((((w'.setCell ⟨g, 0, none⟩ a).setCell ⟨g, 1, none⟩ b).setCell ⟨g, 2, none⟩ c).setCell ⟨g, 3, none⟩ d).setCell ⟨g, 4, none⟩ e).setCell ⟨g, 5, none⟩ f).setCell ⟨g, 6, none⟩ k).setCell ⟨g, 7, none⟩ m) :=
  Below.setCell (Below.setCell (Below.setCell (Below.setCell (Below.setCell (Below.setCell (Below.setCell (Below.setCell h hg _) hg _) hg _) hg _) hg _) hg _) hg _) hg _
/-- A command handed back. -/
theorem ret_cmd {fn : Func} {p : Tmp} {Q : Ending → World → Prop} {act : Act} {w : World} (hr : fn.results = #[.cell p 27]) (g : Nat) (hp : act.tmps.getD p undef = .pointer (some ⟨g, 0, none⟩)) (hd : act.defers = [])
    {a b c d e f h i : Value} (hS : Blk w g 27 #[a, b, c, d, e, f, h, i]) (hQ : Q (.returned (.agg #[a, b, c, d, e, f, h, i])) w) : bodyPost Tryd.prog fn Q .ret act w := by
  refine bodyPost_ret (v := .agg #[a, b, c, d, e, f, h, i]) ?_ hd hQ
  have c0 : w.cell? ⟨g, 0, none⟩ = some a := hS.cell 0
  have c1 : w.cell? ⟨g, 1, none⟩ = some b := hS.cell 1
  have c2 : w.cell? ⟨g, 2, none⟩ = some c := hS.cell 2
  have c3 : w.cell? ⟨g, 3, none⟩ = some d := hS.cell 3
  have c4 : w.cell? ⟨g, 4, none⟩ = some e := hS.cell 4
  have c5 : w.cell? ⟨g, 5, none⟩ = some f := hS.cell 5
  have c6 : w.cell? ⟨g, 6, none⟩ = some h := hS.cell 6
  have c7 : w.cell? ⟨g, 7, none⟩ = some i := hS.cell 7
  have hp' : (act.tmps[p]?).getD undef = .pointer (some ⟨g, 0, none⟩) := by simpa using hp
  simp [results, hr, hp', go_sem, c0, c1, c2, c3, c4, c5, c6, c7]

/-- A command in a block of the call's own, the boxes of what came in beside it. -/
structure CmSt (w0 w : World) (T : Value) (me here : Int) (vs : Array Value) : Prop where
  below : Below w0.heap.size w0 w
  c : Blk w (w0.heap.size + 1 + 1 + 1 + 1) 27 vs
  t : w.cell? ⟨w0.heap.size, 0, none⟩ = some T
  m : w.cell? ⟨w0.heap.size + 1, 0, none⟩ = some (.int .i64 me)
  h : w.cell? ⟨w0.heap.size + 1 + 1, 0, none⟩ = some (.int .i64 here)
  r : Blk w (w0.heap.size + 1 + 1 + 1) 27 #[.string ⟨#[]⟩, .string ⟨#[]⟩, .string ⟨#[]⟩, .string ⟨#[]⟩, .string ⟨#[]⟩, .slice none 0 0, .int .i64 0, .int .i64 0]
theorem CmSt.size {w0 w : World} {T : Value} {me here : Int} {vs : Array Value} (h : CmSt w0 w T me here vs) : w0.heap.size + 5 ≤ w.heap.size := by have := h.c.lt; omega
theorem CmSt.move {w0 w w' : World} {T : Value} {me here : Int} {vs : Array Value} (h : CmSt w0 w T me here vs) (hb : Below w.heap.size w w') : CmSt w0 w' T me here vs := by
  have hz := h.size
  exact ⟨h.below.trans (below_le' hb (by omega)), h.c.below hb (by omega), (hb.cell (p := ⟨w0.heap.size, 0, none⟩) (by show w0.heap.size < _; omega)).trans h.t, (hb.cell (p := ⟨w0.heap.size + 1, 0, none⟩) (by show w0.heap.size + 1 < _; omega)).trans h.m,
    (hb.cell (p := ⟨w0.heap.size + 1 + 1, 0, none⟩) (by show w0.heap.size + 1 + 1 < _; omega)).trans h.h, h.r.below hb (by omega)⟩
theorem CmSt.set_ {w0 w : World} {T : Value} {me here : Int} {vs : Array Value} (h : CmSt w0 w T me here vs) (i : Nat) (u : Value) : CmSt w0 (w.setCell ⟨w0.heap.size + 1 + 1 + 1 + 1, i, none⟩ u) T me here (vs.setIfInBounds i u) := by
  have ho : ∀ b, b ≠ w0.heap.size + 1 + 1 + 1 + 1 → (w.setCell ⟨w0.heap.size + 1 + 1 + 1 + 1, i, none⟩ u).cell? ⟨b, 0, none⟩ = w.cell? ⟨b, 0, none⟩ := fun b hb => World.cell?_setCell_other w _ _ u (fun e => hb (by injection e with e; exact e.symm))
  exact ⟨h.below.setCell (by show w0.heap.size ≤ w0.heap.size + 1 + 1 + 1 + 1; omega) u, h.c.set_ i u, (ho _ (by omega)).trans h.t, (ho _ (by omega)).trans h.m, (ho _ (by omega)).trans h.h, h.r.far (by show w0.heap.size + 1 + 1 + 1 ≠ w0.heap.size + 1 + 1 + 1 + 1; omega) u⟩
theorem CmSt.drew {w0 w : World} {T : Value} {me here : Int} {vs : Array Value} (h : CmSt w0 w T me here vs) : CmSt w0 w.drew T me here vs := ⟨h.below.drew, h.c, h.t, h.m, h.h, h.r⟩
theorem CmSt.new (w0 : World) (T : Value) (me here : Int) :
    CmSt w0 (((((w0.alloc (.cells #[T] 34)).alloc (.cells #[.int .i64 me] 3)).alloc (.cells #[.int .i64 here] 3)).alloc (.cells #[.string ⟨#[]⟩, .string ⟨#[]⟩, .string ⟨#[]⟩, .string ⟨#[]⟩, .string ⟨#[]⟩, .slice none 0 0, .int .i64 0, .int .i64 0] 27)).alloc (.cells #[.string ⟨#[]⟩, .string ⟨#[]⟩, .string ⟨#[]⟩, .string ⟨#[]⟩, .string ⟨#[]⟩, .slice none 0 0, .int .i64 0, .int .i64 0] 27)) T me here #[.string ⟨#[]⟩, .string ⟨#[]⟩, .string ⟨#[]⟩, .string ⟨#[]⟩, .string ⟨#[]⟩, .slice none 0 0, .int .i64 0, .int .i64 0] := by
  have b1 := Blk.new w0 34 #[T]
  have b2 := Blk.new (w0.alloc (.cells #[T] 34)) 3 #[.int .i64 me]
  have b3 := Blk.new ((w0.alloc (.cells #[T] 34)).alloc (.cells #[.int .i64 me] 3)) 3 #[.int .i64 here]
  have b4 := Blk.new (((w0.alloc (.cells #[T] 34)).alloc (.cells #[.int .i64 me] 3)).alloc (.cells #[.int .i64 here] 3)) 27 #[.string ⟨#[]⟩, .string ⟨#[]⟩, .string ⟨#[]⟩, .string ⟨#[]⟩, .string ⟨#[]⟩, .slice none 0 0, .int .i64 0, .int .i64 0]
  have b5 := Blk.new ((((w0.alloc (.cells #[T] 34)).alloc (.cells #[.int .i64 me] 3)).alloc (.cells #[.int .i64 here] 3)).alloc (.cells #[.string ⟨#[]⟩, .string ⟨#[]⟩, .string ⟨#[]⟩, .string ⟨#[]⟩, .string ⟨#[]⟩, .slice none 0 0, .int .i64 0, .int .i64 0] 27)) 27 #[.string ⟨#[]⟩, .string ⟨#[]⟩, .string ⟨#[]⟩, .string ⟨#[]⟩, .string ⟨#[]⟩, .slice none 0 0, .int .i64 0, .int .i64 0]
  simp only [World.size_alloc] at b2 b3 b4 b5
  exact ⟨(((((Below.refl _ _).alloc (Nat.le_refl _) _).alloc (by simp) _).alloc (by simp; omega) _).alloc (by simp; omega) _).alloc (by simp; omega) _, b5, ((((b1.alloc _).alloc _).alloc _).alloc _).cell 0, (((b2.alloc _).alloc _).alloc _).cell 0, ((b3.alloc _).alloc _).cell 0, b4.alloc _⟩

/-- What a line says, ahead of its words' meaning: the verb, what is behind it, the words. -/
def cmdHead (s : List UInt8) : List UInt8 × List UInt8 × List (List UInt8) :=
  let t := Lib.trimLeftB s 32
  if shortL t ≠ [] then (shortL t, t.drop 1, if t.drop 1 ≠ [] then [t.drop 1] else [])
  else
    let r := splS t 0 [] [] false false t.length
    match r.1 with
    | [] => ([], Lib.trimLeftB (t.drop r.2) 32, [])
    | v :: l => (v, Lib.trimLeftB (t.drop r.2) 32, l)
/-- The parts ahead of a word that stands between, and behind it. -/
def cmdParts (l : List (List UInt8)) : List UInt8 × List UInt8 × List UInt8 :=
  match prepAt l with
  | none => (Lib.join l [32], [], [])
  | some p => (Lib.join (l.take p.1) [32], p.2, Lib.join (l.drop (p.1 + 1)) [32])
def CmdOut (s : List UInt8) (me here : Int) (ob : List UInt8 → Int) (w : World) (e : Ending) (w' : World) : Prop :=
  ∃ (A : Option Addr) (c : Nat), e = .returned (.agg #[.string ⟨(cmdHead s).1.toArray⟩, .string ⟨(cmdHead s).2.1.toArray⟩, .string ⟨(cmdParts (cmdHead s).2.2).1.toArray⟩, .string ⟨(cmdParts (cmdHead s).2.2).2.1.toArray⟩, .string ⟨(cmdParts (cmdHead s).2.2).2.2.toArray⟩,
    .slice A (cmdHead s).2.2.length c, .int .i64 (meansI me here ob (cmdParts (cmdHead s).2.2).1), .int .i64 (meansI me here ob (cmdParts (cmdHead s).2.2).2.2)]) ∧ (cmdHead s).2.2.length ≤ c ∧ StrO w' A (cmdHead s).2.2 ∧ Below w.heap.size w w'

theorem dropW_len (p : UInt8 → Bool) : ∀ l : List UInt8, (l.dropWhile p).length ≤ l.length
  | [] => Nat.le_refl _
  | c :: l => by
    rw [List.dropWhile_cons]
    split
    · exact Nat.le_succ_of_le (dropW_len p l)
    · exact Nat.le_refl _
theorem trimLeft_len (l : List UInt8) (c : UInt8) : (Lib.trimLeftB l c).length ≤ l.length := dropW_len _ l
theorem extractK (b : ByteArray) (k : Nat) : b.extract k b.size = ⟨(b.data.toList.drop k).toArray⟩ := by
  apply ByteArray.ext
  rw [ByteArray.data_extract]
  apply Array.ext'
  rw [Array.toList_extract, List.extract_eq_take_drop]
  show _ = b.data.toList.drop k
  rw [List.take_of_length_le]
  rw [List.length_drop, ← size_listE]
  omega
theorem own_cap {w : World} {b e s n m c : Nat} {A : Option Addr} {xs : List Value} (h : w.ownsRow b e s (.slice A m c) n xs) : n ≤ c := by
  rcases h.2 with ⟨h0, h1⟩ | ⟨g, c', cur, hv, _, _, hc, _⟩
  · omega
  · injection hv with _ _ h3; omega
theorem StrO.far {w : World} {g o1 b o : Nat} {l : List (List UInt8)} {u : Value} (h : StrO w (some ⟨g, o1, none⟩) l) (hb : g ≠ b) : StrO (w.setCell ⟨b, o, none⟩ u) (some ⟨g, o1, none⟩) l := by
  rcases h with h | ⟨g', o', hA, hg, hc⟩
  · exact .inl h
  · injection hA with hA
    injection hA with h1 h2
    subst h1 h2
    exact .inr ⟨g, o1, rfl, by simpa [World.setCell] using hg, fun j x hj => (World.cell?_setCell_other w _ _ u (fun e => hb (by injection e with e; exact e.symm))).trans (hc j x hj)⟩
theorem StrO.off {w : World} {A : Option Addr} {b o : Nat} {l : List (List UInt8)} {u : Value} (h : StrO w A l) (hA : ∀ g o, A = some ⟨g, o, none⟩ → g ≠ b) : StrO (w.setCell ⟨b, o, none⟩ u) A l := by
  rcases h with h | ⟨g', o', rfl, hg, hc⟩
  · exact .inl h
  · exact (show StrO w (some ⟨g', o', none⟩) l from .inr ⟨g', o', rfl, hg, hc⟩).far (hA g' o' rfl)
theorem shortL_ne {l : List UInt8} (h : shortL l ≠ []) : l ≠ [] := fun e => h (by rw [e]; rfl)

end Go.Proofs.YtcnfbdabbnhjlaaDoor
namespace Go.Proofs.YtcnfbdabbnhjlaaDoor
open Go.RowKit Go.Lib
set_option linter.unusedVariables false

/-- Words, and one for each. -/
def totL : List (List UInt8) → Nat
  | [] => 0
  | x :: l => x.length + 1 + totL l
theorem totL_app : ∀ a b, totL (a ++ b) = totL a + totL b
  | [], b => by rw [List.nil_append, totL, Nat.zero_add]
  | x :: a, b => by rw [List.cons_append, totL, totL, totL_app a b]; omega
theorem totL_len : ∀ l, l.length ≤ totL l
  | [] => Nat.le_refl _
  | x :: l => by rw [totL, List.length_cons]; have := totL_len l; omega
theorem totL_mem : ∀ {l : List (List UInt8)} {x}, x ∈ l → x.length ≤ totL l
  | y :: l, x, h => by
    rw [totL]
    rcases List.mem_cons.1 h with rfl | h
    · omega
    · have := totL_mem h; omega
theorem totL_take (l : List (List UInt8)) (n : Nat) : totL (l.take n) ≤ totL l := by
  have : totL l = totL (l.take n) + totL (l.drop n) := by rw [← totL_app, List.take_append_drop]
  omega
theorem totL_drop (l : List (List UInt8)) (n : Nat) : totL (l.drop n) ≤ totL l := by
  have : totL l = totL (l.take n) + totL (l.drop n) := by rw [← totL_app, List.take_append_drop]
  omega
theorem join_tot (l : List (List UInt8)) : (Lib.join l [32]).length ≤ totL l := by
  cases l with
  | nil => exact Nat.zero_le _
  | cons x r =>
    rw [Lib.join_cons, List.length_append, totL]
    have : ∀ r : List (List UInt8), (Lib.joinTail [32] r).length = totL r := by
      intro r
      induction r with
      | nil => rfl
      | cons a t ih =>
        show ([32] ++ a ++ Lib.joinTail [32] t).length = _
        rw [List.length_append, List.length_append, ih, totL]
        simp; omega
    rw [this]; omega
theorem splS_tot : ∀ (l : List UInt8) (i e : Nat) (out : List (List UInt8)) (b : List UInt8) (n q : Bool), totL (splS l i out b n q e).1 ≤ totL out + b.length + l.length + 1 := by
  intro l
  induction hl : l.length using Nat.strongRecOn generalizing l with
  | _ N ih =>
    intro i e out b n q
    cases l with
    | nil =>
      rw [splS_nil]
      cases n
      · simp; omega
      · simp only [if_pos]
        rw [totL_app]; simp [totL]; omega
    | cons c r =>
      have hr : r.length < N := by rw [← hl]; simp
      have hN : N = r.length + 1 := by rw [← hl]; simp
      by_cases h92 : c = 92
      · subst h92
        cases r with
        | nil =>
          rw [splS_s0]
          cases n
          · simp; omega
          · simp only [if_pos]
            rw [totL_app]; simp [totL]; omega
        | cons x r =>
          rw [splS_s]
          have hr2 : r.length < N := by simp at hN; omega
          have := ih r.length hr2 r rfl (i + 2) e out (b ++ [x]) true q
          simp at this hN ⊢; omega
      · by_cases h34 : c = 34
        · subst h34
          rw [splS_q]
          have := ih r.length hr r rfl (i + 1) e out b true (!q)
          omega
        · by_cases h32 : c = 32 ∧ q = false
          · obtain ⟨rfl, rfl⟩ := h32
            rw [splS_b]
            cases n
            · rw [if_neg (by decide)]
              have := ih r.length hr r rfl (i + 1) e out b false false
              omega
            · rw [if_pos rfl]
              have := ih r.length hr r rfl (i + 1) (if out = [] then i else e) (out ++ [b]) [] false false
              rw [totL_app] at this
              simp [totL] at this
              omega
          · rw [splS_c _ _ _ _ _ _ _ h92 h34 h32]
            have := ih r.length hr r rfl (i + 1) e out (b ++ [c]) true q
            simp at this; omega
theorem head_tot (s : List UInt8) : totL (cmdHead s).2.2 ≤ s.length + 1 := by
  have ht : (Lib.trimLeftB s 32).length ≤ s.length := trimLeft_len _ _
  unfold cmdHead
  simp only
  split
  · simp only
    split
    · simp only [totL, List.length_drop]; omega
    · simp [totL]
  · have := splS_tot (Lib.trimLeftB s 32) 0 (Lib.trimLeftB s 32).length [] [] false false
    simp only [totL, List.length_nil] at this
    cases hq : (splS (Lib.trimLeftB s 32) 0 [] [] false false (Lib.trimLeftB s 32).length).1 with
    | nil => simp [totL]
    | cons v l => rw [hq, totL] at this; simp only; omega
theorem prepAt_len : ∀ {l : List (List UInt8)} {p : Nat × List UInt8}, prepAt l = some p → p.2.length ≤ totL l
  | [], p, h => by cases h
  | w :: l, p, h => by
    rw [prepAt] at h
    rw [totL]
    split at h
    · injection h with h; rw [← h]; unfold lowS; simp; omega
    · cases hq : prepAt l with
      | none => rw [hq] at h; cases h
      | some q =>
        rw [hq] at h
        injection h with h
        have := prepAt_len hq
        rw [← h]; simp; omega
end Go.Proofs.YtcnfbdabbnhjlaaDoor
namespace Go.Proofs.YtcnfbdabbnhjlaaDoor
open Go.RowKit Go.Lib
set_option linter.unusedVariables false

/-- What a line says, and that its words lie in rows of the call's own. -/
def CmdOut2 (s : List UInt8) (me here : Int) (ob : List UInt8 → Int) (w : World) (e : Ending) (w' : World) : Prop :=
  ∃ (A : Option Addr) (c : Nat), e = .returned (.agg #[.string ⟨(cmdHead s).1.toArray⟩, .string ⟨(cmdHead s).2.1.toArray⟩, .string ⟨(cmdParts (cmdHead s).2.2).1.toArray⟩, .string ⟨(cmdParts (cmdHead s).2.2).2.1.toArray⟩, .string ⟨(cmdParts (cmdHead s).2.2).2.2.toArray⟩,
    .slice A (cmdHead s).2.2.length c, .int .i64 (meansI me here ob (cmdParts (cmdHead s).2.2).1), .int .i64 (meansI me here ob (cmdParts (cmdHead s).2.2).2.2)]) ∧ (cmdHead s).2.2.length ≤ c ∧ (∀ g o, A = some ⟨g, o, none⟩ → w.heap.size ≤ g) ∧ StrO w' A (cmdHead s).2.2 ∧ Below w.heap.size w w'

set_option maxRecDepth 100000 in
set_option maxHeartbeats 8000000 in
theorem parse_c2 (s : ByteArray) (TA : Option Addr) (tn tc : Nat) (me here : Int) (ob : List UInt8 → Int) {P : List UInt8 → Prop} (w : World) (ht : SpaceAt w) (hr : 10 < w.heap.size) (hob : ObC (.slice TA tn tc) ob P w) (hs : s.size ≤ 10000)
    (hP1 : ∀ d, d = (cmdParts (cmdHead s.data.toList).2.2).1 ∨ d = (cmdParts (cmdHead s.data.toList).2.2).2.2 → d ≠ meL → d ≠ hereL → P d) :
    Calls Tryd.prog 9 #[.string s, .slice TA tn tc, .int .i64 me, .int .i64 here] w (CmdOut2 s.data.toList me here ob w) := by
  obtain ⟨tb, htb⟩ : ∃ tb : ByteArray, tb = ⟨(Lib.trimLeftB s.data.toList 32).toArray⟩ := ⟨_, rfl⟩
  have TC := Lib.hid (fun W => Tryd.strings_TrimLeft_one s 32 (by decide) W)
  rw [← htb] at TC
  have htl : tb.data.toList = Lib.trimLeftB s.data.toList 32 := by rw [htb]
  obtain ⟨vb, hvb⟩ : ∃ vb : ByteArray, vb = ⟨(shortL tb.data.toList).toArray⟩ := ⟨_, rfl⟩
  have SH := Lib.hid (fun W => short_c tb W)
  rw [← hvb] at SH
  have hvl : vb.data.toList = shortL tb.data.toList := by rw [hvb]
  obtain ⟨V, hV⟩ : ∃ V : ByteArray, V = ⟨(cmdHead s.data.toList).1.toArray⟩ := ⟨_, rfl⟩
  obtain ⟨AG, hAG⟩ : ∃ AG : ByteArray, AG = ⟨(cmdHead s.data.toList).2.1.toArray⟩ := ⟨_, rfl⟩
  obtain ⟨args, hargs⟩ : ∃ args, args = (cmdHead s.data.toList).2.2 := ⟨_, rfl⟩
  have HV := Lib.hid hV
  have HAG := Lib.hid hAG
  have HARG := Lib.hid hargs
  have HTL := Lib.hid htl
  have HVL := Lib.hid hvl
  have NW := Lib.hid (CmSt.new w (.slice TA tn tc) me here)
  have SPV := Lib.hid (fun W (hW : Below w.heap.size w W) => space_below ht hW hr)
  clear htb htl hvb hvl hV hAG hargs ht
  go_enter Tryd.func9, Tryd.ntmps9
  go_wp2_with fail
  refine (TC.out _).mono ?_
  rintro e w1 ⟨rfl, rfl⟩
  go_wp2_with fail
  obtain ⟨w1, hw1⟩ : ∃ w1, w1 = (((((w.alloc (.cells #[.slice TA tn tc] 34)).alloc (.cells #[.int .i64 me] 3)).alloc (.cells #[.int .i64 here] 3)).alloc (.cells #[.string ⟨#[]⟩, .string ⟨#[]⟩, .string ⟨#[]⟩, .string ⟨#[]⟩, .string ⟨#[]⟩, .slice none 0 0, .int .i64 0, .int .i64 0] 27)).alloc (.cells #[.string ⟨#[]⟩, .string ⟨#[]⟩, .string ⟨#[]⟩, .string ⟨#[]⟩, .string ⟨#[]⟩, .slice none 0 0, .int .i64 0, .int .i64 0] 27)) := ⟨_, rfl⟩
  rw [← hw1] at NW ⊢
  clear hw1
  refine (SH.out _).mono ?_
  rintro e w2 ⟨rfl, rfl⟩
  have c0 : w1.cell? ⟨w.heap.size + 1 + 1 + 1 + 1, 0, none⟩ = some (.string ⟨#[]⟩) := NW.out.c.cell 0
  have c1 : w1.cell? ⟨w.heap.size + 1 + 1 + 1 + 1, 1, none⟩ = some (.string ⟨#[]⟩) := NW.out.c.cell 1
  have c5 : w1.cell? ⟨w.heap.size + 1 + 1 + 1 + 1, 5, none⟩ = some (.slice none 0 0) := NW.out.c.cell 5
  have f0 := NW.out.c.frozen 0
  have f1 := NW.out.c.frozen 1
  have f5 := NW.out.c.frozen 5
  have hz1 : w.heap.size + 1 + 1 + 1 + 1 < w1.heap.size := NW.out.c.lt
  go_upto_if 23 with fail
  go_cut [10, 11] (fun a b wx => ∃ A c, args.length ≤ c ∧ Hid (∀ g o, A = some ⟨g, o, none⟩ → w.heap.size + 1 + 1 + 1 + 1 < g) ∧ Hid (StrO wx A args) ∧ Hid (CmSt w wx (.slice TA tn tc) me here #[.string V, .string AG, .string ⟨#[]⟩, .string ⟨#[]⟩, .string ⟨#[]⟩, .slice A args.length c, .int .i64 0, .int .i64 0]))
  case first =>
    by_cases hv0 : vb.data.toList = []
    · have t1 : vb.toList.isEmpty = true := by rw [Lib.toList_data, hv0]; rfl
      have t1' : (!vb.toList.isEmpty) = false := by rw [t1]; rfl
      have hsh : shortL tb.data.toList = [] := by rw [← HVL.out, hv0]
      have SC := Lib.hid (fun W => split_c tb W (by
        have h1 : tb.size ≤ s.size := by
          rw [size_listE, size_listE, HTL.out]; exact trimLeft_len _ _
        omega))
      have HSH := Lib.hid hsh
      clear hv0 hsh
      rw [t1']
      go_wp2_with fail
      refine (SC.out _).mono ?_
      rintro e w3 ⟨VL_, outs, en, rfl, hsp, hen, hol, hown, hb3⟩
      obtain ⟨OA, OC, rfl⟩ := own_form hown
      have N3 := Lib.hid ((NW.out.set_ 0 (.string vb)).move hb3)
      have HSO := Lib.hid (strO_own hown)
      have hoc := own_cap hown
      have HGE := Lib.hid (fun (g o : Nat) (h : OA = some ⟨g, o, none⟩) => own_ge hown g (by rw [h]; rfl))
      have HSP := Lib.hid hsp
      clear hb3 hsp hown
      have HD1 := Lib.hid (show AG = ⟨(Lib.trimLeftB (tb.data.toList.drop en) 32).toArray⟩ ∧ (outs = [] → V = ⟨#[]⟩ ∧ args = []) ∧ ∀ v l, outs = v :: l → V = ⟨v.toArray⟩ ∧ args = l by
        have h1 := HSH.out
        have h0 := HSP.out
        rw [size_listE] at h0
        rw [HTL.out] at h0 h1
        have hc : ∀ os : List (List UInt8), splS (Lib.trimLeftB s.data.toList 32) 0 [] [] false false (Lib.trimLeftB s.data.toList 32).length = (os, en) → cmdHead s.data.toList = (os.headD [], Lib.trimLeftB ((Lib.trimLeftB s.data.toList 32).drop en) 32, os.tail) := fun os ho => by
          unfold cmdHead; rw [if_neg (by rw [h1]; simp)]; simp only [ho]
          cases os <;> rfl
        have h2 := hc outs h0
        refine ⟨?_, ?_, ?_⟩
        · rw [HAG.out, h2, HTL.out]
        · intro ho; rw [HV.out, HARG.out, h2, ho]; exact ⟨rfl, rfl⟩
        · intro v l ho; rw [HV.out, HARG.out, h2, ho]; exact ⟨rfl, rfl⟩)
      have TL2 := Lib.hid (fun W => Tryd.strings_TrimLeft_one (tb.extract en tb.size) 32 (by decide) W)
      rw [show (⟨(Lib.trimLeftB (tb.extract en tb.size).data.toList 32).toArray⟩ : ByteArray) = AG by rw [HD1.out.1, extractK tb en]] at TL2
      have d1 : w3.cell? ⟨w.heap.size + 1 + 1 + 1 + 1, 1, none⟩ = some (.string ⟨#[]⟩) := N3.out.c.cell 1
      have d0 : w3.cell? ⟨w.heap.size + 1 + 1 + 1 + 1, 0, none⟩ = some (.string vb) := N3.out.c.cell 0
      have d5 : w3.cell? ⟨w.heap.size + 1 + 1 + 1 + 1, 5, none⟩ = some (.slice none 0 0) := N3.out.c.cell 5
      have g0 := N3.out.c.frozen 0
      have g1 := N3.out.c.frozen 1
      have g5 := N3.out.c.frozen 5
      have hz3 : w.heap.size + 1 + 1 + 1 + 1 < w3.heap.size := N3.out.c.lt
      have henI : (en : Int) ≤ (tb.size : Int) := by omega
      cases outs with
      | nil =>
        have HD2 := Lib.hid (HD1.out.2.1 rfl)
        rw [show ([] : List (List UInt8)).length = 0 from rfl] at *
        clear c0 c1 c5 f0 f1 f5 hz1
        go_wp2_with fail
        refine (TL2.out _).mono ?_
        rintro e w4 ⟨rfl, rfl⟩
        go_wp2_with fail
        go_meet
        refine ⟨none, 0, by rw [HD2.out.2]; exact Nat.le_refl _, Lib.hid (fun g o h => by cases h), Lib.hid (.inl HD2.out.2), Lib.hid ?_⟩
        have n3 := N3.out.set_ 1 (.string AG)
        have hvv : vb = ⟨#[]⟩ := by
          apply ByteArray.ext
          apply Array.ext'
          rw [HVL.out, HSH.out]
        rw [hvv] at n3
        rw [HD2.out.1, HD2.out.2]
        exact n3
      | cons v l =>
        have HD2 := Lib.hid (HD1.out.2.2 v l rfl)
        obtain ⟨og, o0, rfl, hog, hcell⟩ : ∃ g o, OA = some ⟨g, o, none⟩ ∧ g < w3.heap.size ∧ ∀ j x, (v :: l)[j]? = some x → w3.cell? ⟨g, o + j, none⟩ = some (.string ⟨x.toArray⟩) := by
          rcases HSO.out with h | h
          · cases h
          · exact h
        have k0 : w3.cell? ⟨og, o0, none⟩ = some (.string ⟨v.toArray⟩) := hcell 0 v rfl
        have HSD := Lib.hid (StrO.drop HSO.out 1)
        have hln : (v :: l).length = l.length + 1 := rfl
        rw [hln] at hoc hol
        rw [hln]
        have hoc2 : (l.length : Int) + 1 ≤ (OC : Int) := by omega
        have hoc3 : (1 : Int) ≤ (l.length : Int) + 1 := by omega
        have hogL : w.heap.size + 1 + 1 + 1 + 1 < og := by
          have := HGE.out og o0 rfl
          simp [World.setCell] at this
          omega
        have hogC : og ≠ w.heap.size + 1 + 1 + 1 + 1 := by omega
        clear c0 c1 c5 f0 f1 f5 hz1 hcell hln HSO
        go_wp2_with fail
        go_region
        obtain ⟨A2, hA2⟩ : ∃ A2 : Option Addr, A2 = (if OC = 1 then some ⟨og, o0, none⟩ else some ⟨og, o0 + 1, none⟩) := ⟨_, rfl⟩
        rw [← hA2]
        obtain ⟨o2, ho2, HS2⟩ : ∃ o2, A2 = some ⟨og, o2, none⟩ ∧ Hid (StrO w3 (some ⟨og, o2, none⟩) l) := by
          rw [hA2]
          by_cases hOC : OC = 1
          · rw [if_pos hOC]; exact ⟨o0, rfl, .inl (List.eq_nil_of_length_eq_zero (by omega))⟩
          · rw [if_neg hOC]; exact ⟨o0 + 1, rfl, HSD.out⟩
        clear hA2
        subst ho2
        go_wp2_with fail
        refine (TL2.out _).mono ?_
        rintro e w4 ⟨rfl, rfl⟩
        go_wp2_with fail
        go_meet
        have n3 := (((N3.out.set_ 0 (.string ⟨v.toArray⟩)).set_ 5 (.slice (some ⟨og, o2, none⟩) l.length (OC - 1))).set_ 1 (.string AG)).drew
        have s3 := ((HS2.out.far hogC (o := 0) (u := .string ⟨v.toArray⟩)).far hogC (o := 5) (u := .slice (some ⟨og, o2, none⟩) l.length (OC - 1))).far hogC (o := 1) (u := .string AG)
        rw [HD2.out.1, HD2.out.2]
        exact ⟨some ⟨og, o2, none⟩, OC - 1, by omega, Lib.hid (fun g o h => by injection h with h; injection h with h; rw [← h]; exact hogL), Lib.hid s3, Lib.hid n3⟩
    · have t1 : vb.toList.isEmpty = false := by rw [Lib.toList_data]; cases hq : vb.data.toList with | nil => exact absurd hq hv0 | cons => rfl
      have t1' : (!vb.toList.isEmpty) = true := by rw [t1]; rfl
      have hsh : shortL tb.data.toList ≠ [] := by rw [← HVL.out]; exact hv0
      have htz : 0 < tb.size := by rw [size_listE]; exact List.length_pos_iff.2 (shortL_ne hsh)
      have h1z : (1 : Int) ≤ (tb.size : Int) := by omega
      have habl : (tb.extract 1 tb.size).data.toList = tb.data.toList.drop 1 := by rw [extractK tb 1]
      have HSH := Lib.hid hsh
      have HABL := Lib.hid habl
      clear hv0 hsh
      have HD1 := Lib.hid (show V = vb ∧ AG = tb.extract 1 tb.size ∧ args = (if tb.data.toList.drop 1 ≠ [] then [tb.data.toList.drop 1] else []) by
        have h1 := HSH.out
        rw [HTL.out] at h1
        have h2 : cmdHead s.data.toList = (shortL (Lib.trimLeftB s.data.toList 32), (Lib.trimLeftB s.data.toList 32).drop 1, if (Lib.trimLeftB s.data.toList 32).drop 1 ≠ [] then [(Lib.trimLeftB s.data.toList 32).drop 1] else []) := by
          unfold cmdHead; rw [if_pos h1]
        refine ⟨?_, ?_, ?_⟩
        · rw [HV.out, h2, ← HTL.out]; show _ = vb; rw [← HVL.out]
        · rw [HAG.out, h2, extractK tb 1, HTL.out]
        · rw [HARG.out, h2, HTL.out])
      by_cases ha0 : tb.data.toList.drop 1 = []
      · have t2 : (tb.extract 1 tb.size).toList.isEmpty = true := by rw [Lib.toList_data, habl, ha0]; rfl
        have HD2 := Lib.hid (show args = [] by rw [HD1.out.2.2, if_neg (by simp [ha0])])
        clear ha0 habl
        rw [t1']
        go_wp2_with fail
        go_meet
        refine ⟨none, 0, by rw [HD2.out]; exact Nat.le_refl _, Lib.hid (fun g o h => by cases h), Lib.hid (.inl HD2.out), Lib.hid ?_⟩
        have := (NW.out.set_ 0 (.string vb)).set_ 1 (.string (tb.extract 1 tb.size))
        rw [HD1.out.1, HD1.out.2.1, HD2.out]
        exact this
      · have t2 : (tb.extract 1 tb.size).toList.isEmpty = false := by
          rw [Lib.toList_data, habl]; cases hq : tb.data.toList.drop 1 with | nil => exact absurd hq ha0 | cons => rfl
        have HD2 := Lib.hid (show args = [tb.data.toList.drop 1] by rw [HD1.out.2.2, if_pos ha0])
        clear ha0 habl
        rw [t1']
        go_wp2_with fail
        go_meet
        have n2 := (((NW.out.set_ 0 (.string vb)).set_ 1 (.string (tb.extract 1 tb.size))).set_ 5 (.slice (some ⟨w1.heap.size, 0, none⟩) 1 1))
        have n3 := n2.move (w' := World.alloc _ (.cells #[.string (tb.extract 1 tb.size)] 9)) ((Below.refl _ _).alloc (Nat.le_refl _) _)
        obtain ⟨wq, hwq⟩ : ∃ wq, wq = ((w1.setCell ⟨w.heap.size + 1 + 1 + 1 + 1, 0, none⟩ (.string vb)).setCell ⟨w.heap.size + 1 + 1 + 1 + 1, 1, none⟩ (.string (tb.extract 1 tb.size))).setCell ⟨w.heap.size + 1 + 1 + 1 + 1, 5, none⟩ (.slice (some ⟨w1.heap.size, 0, none⟩) 1 1) := ⟨_, rfl⟩
        have hqz : wq.heap.size = w1.heap.size := by rw [hwq]; simp [World.setCell]
        rw [← hwq] at n3 ⊢
        have hb := Blk.new wq 9 #[.string (tb.extract 1 tb.size)]
        rw [hqz] at hb
        refine ⟨some ⟨w1.heap.size, 0, none⟩, 1, by rw [HD2.out]; exact Nat.le_refl _, Lib.hid (fun g o h => by injection h with h; injection h with h; omega), Lib.hid (.inr ⟨w1.heap.size, 0, rfl, hb.lt, ?_⟩), Lib.hid ?_⟩
        · rw [HD2.out]
          intro j x hj
          match j, hj with
          | 0, hj =>
            injection hj with hj
            rw [← hj, ← HABL.out]
            exact hb.cell 0
          | j + 1, hj => cases hj
        · rw [HD1.out.1, HD1.out.2.1, HD2.out]
          exact n3
  case rest =>
    obtain ⟨A, c, hac, HA, HS, HC⟩ := hcut
    have htot : totL args ≤ 10001 := by rw [HARG.out]; have := head_tot s.data.toList; rw [← size_listE] at this; omega
    have hal : args.length ≤ 10001 := Nat.le_trans (totL_len _) htot
    have PC := Lib.hid (fun W (hW : Below w.heap.size w W) (hS : StrO W A args) => prep_c A c args W (SPV.out W hW) (by have := hW.size; omega) hS (by omega) (fun x hx => by have := totL_mem hx; omega))
    have c5 : wc.cell? ⟨w.heap.size + 1 + 1 + 1 + 1, 5, none⟩ = some (.slice A args.length c) := HC.out.c.cell 5
    clear c0 c1 f0 f1 f5 hz1
    go_wp2_with fail
    refine (PC.out _ HC.out.below HS.out).mono ?_
    rintro e w6 ⟨rfl, hb6⟩
    have HC6 := Lib.hid (HC.out.move hb6)
    have HS6 := Lib.hid (HS.out.below hb6)
    have JA := Lib.hid (fun W (hS : StrO W A args) => join_o (⟨#[32]⟩ : ByteArray) hS hac (by omega) (by have := join_tot args; show (Lib.join args [32]).length ≤ _; omega))
    clear hb6 c5 HS HC PC
    have c5 : w6.cell? ⟨w.heap.size + 1 + 1 + 1 + 1, 5, none⟩ = some (.slice A args.length c) := HC6.out.c.cell 5
    obtain ⟨pa, pb, pw, hpv, hpp⟩ : ∃ (pa pb : Int) (pw : ByteArray), prepV args = .tuple #[.int .i64 pa, .int .i64 pb, .string pw] ∧ Hid ((prepAt args = none ∧ pa < 0) ∨ ∃ p, prepAt args = some p ∧ pa = (p.1 : Int) ∧ pb = (p.1 : Int) + 1 ∧ pw = ⟨p.2.toArray⟩) := by
      unfold prepV
      cases hpa : prepAt args with
      | none => exact ⟨-1, -1, ⟨#[]⟩, rfl, .inl ⟨rfl, by decide⟩⟩
      | some p => exact ⟨_, _, _, rfl, .inr ⟨p, rfl, rfl, rfl, rfl⟩⟩
    rw [hpv]
    clear hpv
    obtain ⟨DO, hDO⟩ : ∃ D : ByteArray, D = ⟨(cmdParts args).1.toArray⟩ := ⟨_, rfl⟩
    obtain ⟨PO, hPO⟩ : ∃ D : ByteArray, D = ⟨(cmdParts args).2.1.toArray⟩ := ⟨_, rfl⟩
    obtain ⟨IO_, hIO⟩ : ∃ D : ByteArray, D = ⟨(cmdParts args).2.2.toArray⟩ := ⟨_, rfl⟩
    have HDO := Lib.hid hDO
    have HPO := Lib.hid hPO
    have HIO := Lib.hid hIO
    clear hDO hPO hIO
    go_wp2_with fail
    refine (JA.out _ HS6.out).mono ?_
    rintro e w7 ⟨rfl, hb7⟩
    have HC7 := Lib.hid (HC6.out.move hb7)
    have HS7 := Lib.hid (HS6.out.below hb7)
    clear hb7 c5
    have c0 : w7.cell? ⟨w.heap.size + 1 + 1 + 1 + 1, 0, none⟩ = some (.string V) := HC7.out.c.cell 0
    have c2 : w7.cell? ⟨w.heap.size + 1 + 1 + 1 + 1, 2, none⟩ = some (.string ⟨#[]⟩) := HC7.out.c.cell 2
    have f2 := HC7.out.c.frozen 2
    go_upto_if 66 with fail
    go_cut [16] (fun a wx => Hid (StrO wx A args) ∧ Hid (CmSt w wx (.slice TA tn tc) me here #[.string V, .string AG, .string DO, .string PO, .string IO_, .slice A args.length c, .int .i64 0, .int .i64 0]))
    case first =>
      rcases hpp with ⟨hpa, hneg⟩ | ⟨p, hpa, rfl, rfl, rfl⟩
      · have t1 : decide (0 ≤ pa) = false := by rw [decide_eq_false_iff_not]; omega
        have hcp : cmdParts args = (Lib.join args [32], [], []) := by unfold cmdParts; rw [hpa]
        have HDP := Lib.hid (show DO = ⟨(Lib.join args [32]).toArray⟩ ∧ PO = ⟨#[]⟩ ∧ IO_ = ⟨#[]⟩ from ⟨by rw [HDO.out, hcp], by rw [HPO.out, hcp], by rw [HIO.out, hcp]⟩)
        clear hpa hcp
        rw [t1]
        go_wp2_with fail
        go_meet
        have n3 := HC7.out.set_ 2 (.string ⟨(Lib.join args [32]).toArray⟩)
        rw [HDP.out.1, HDP.out.2.1, HDP.out.2.2]
        exact ⟨Lib.hid (HS7.out.off (fun g o h => by have := HA.out g o h; omega)), Lib.hid n3⟩
      · have t1 : decide ((0 : Int) ≤ (p.1 : Int)) = true := by rw [decide_eq_true_eq]; omega
        have hcp : cmdParts args = (Lib.join (args.take p.1) [32], p.2, Lib.join (args.drop (p.1 + 1)) [32]) := by unfold cmdParts; rw [hpa]
        obtain ⟨j1, hj1⟩ : ∃ j : ByteArray, j = ⟨(Lib.join (args.take p.1) [32]).toArray⟩ := ⟨_, rfl⟩
        obtain ⟨j2, hj2⟩ : ∃ j : ByteArray, j = ⟨(Lib.join (args.drop (p.1 + 1)) [32]).toArray⟩ := ⟨_, rfl⟩
        have HDP := Lib.hid (show DO = j1 ∧ PO = ⟨p.2.toArray⟩ ∧ IO_ = j2 from ⟨by rw [HDO.out, hcp, hj1], by rw [HPO.out, hcp], by rw [HIO.out, hcp, hj2]⟩)
        have hplt := prepAt_lt hpa
        obtain ⟨ga, o, rfl⟩ : ∃ ga o, A = some ⟨ga, o, none⟩ := by
          rcases HS7.out with h | ⟨g, o, h, _⟩
          · rw [h] at hplt; exact absurd hplt (Nat.not_lt_zero _)
          · exact ⟨g, o, h⟩
        first | rw [t1] | (rw [show decide ((0 : Nat) ≤ p.1) = true from by simp])
        have c3 : w7.cell? ⟨w.heap.size + 1 + 1 + 1 + 1, 3, none⟩ = some (.string ⟨#[]⟩) := HC7.out.c.cell 3
        have f3 := HC7.out.c.frozen 3
        have hgC : ga ≠ w.heap.size + 1 + 1 + 1 + 1 := by have := HA.out ga o rfl; omega
        obtain ⟨X, hX⟩ : ∃ X : World → Prop, X = fun W => ∃ d i, CmSt w W (.slice TA tn tc) me here #[.string V, .string AG, d, .string ⟨p.2.toArray⟩, i, .slice (some ⟨ga, o, none⟩) args.length c, .int .i64 0, .int .i64 0] ∧ StrO W (some ⟨ga, o, none⟩) args := ⟨_, rfl⟩
        have XM : ∀ W W', X W → Below W.heap.size W W' → X W' := fun W W' h hb => by
          rw [hX] at h ⊢
          obtain ⟨d, i, h1, h2⟩ := h
          exact ⟨d, i, h1.move hb, h2.below hb⟩
        have X5 : ∀ W, X W → W.cell? ⟨w.heap.size + 1 + 1 + 1 + 1, 5, none⟩ = some (.slice (some ⟨ga, o, none⟩) args.length c) := fun W h => by
          rw [hX] at h
          obtain ⟨d, i, h1, h2⟩ := h
          exact h1.c.cell 5
        have XS := Lib.hid (fun W (h : X W) => show StrO W (some ⟨ga, o, none⟩) args by
          rw [hX] at h
          obtain ⟨d, i, h1, h2⟩ := h
          exact h2)
        have K2 : ∀ W v, X W → X (W.setCell ⟨w.heap.size + 1 + 1 + 1 + 1, 2, none⟩ v) := fun W v h => by
          rw [hX] at h ⊢
          obtain ⟨d, i, h1, h2⟩ := h
          exact ⟨v, i, h1.set_ 2 v, h2.far hgC⟩
        have K4 : ∀ W v, X W → X (W.setCell ⟨w.heap.size + 1 + 1 + 1 + 1, 4, none⟩ v) := fun W v h => by
          rw [hX] at h ⊢
          obtain ⟨d, i, h1, h2⟩ := h
          exact ⟨d, v, h1.set_ 4 v, h2.far hgC⟩
        have X2 : ∀ W, ∃ u, X W → W.cell? ⟨w.heap.size + 1 + 1 + 1 + 1, 2, none⟩ = some u := fun W => by
          rw [hX]
          by_cases h : ∃ d i, CmSt w W (.slice TA tn tc) me here #[.string V, .string AG, d, .string ⟨p.2.toArray⟩, i, .slice (some ⟨ga, o, none⟩) args.length c, .int .i64 0, .int .i64 0] ∧ StrO W (some ⟨ga, o, none⟩) args
          · obtain ⟨d, i, h1, h2⟩ := h
            exact ⟨d, fun _ => h1.c.cell 2⟩
          · exact ⟨undef, fun h' => absurd h' h⟩
        have X4 : ∀ W, ∃ u, X W → W.cell? ⟨w.heap.size + 1 + 1 + 1 + 1, 4, none⟩ = some u := fun W => by
          rw [hX]
          by_cases h : ∃ d i, CmSt w W (.slice TA tn tc) me here #[.string V, .string AG, d, .string ⟨p.2.toArray⟩, i, .slice (some ⟨ga, o, none⟩) args.length c, .int .i64 0, .int .i64 0] ∧ StrO W (some ⟨ga, o, none⟩) args
          · obtain ⟨d, i, h1, h2⟩ := h
            exact ⟨i, fun _ => h1.c.cell 4⟩
          · exact ⟨undef, fun h' => absurd h' h⟩
        obtain ⟨u2, hu2⟩ := Classical.axiomOfChoice X2
        obtain ⟨u4, hu4⟩ := Classical.axiomOfChoice X4
        have X2f : ∀ W, X W → W.frozen? ⟨w.heap.size + 1 + 1 + 1 + 1, 2, none⟩ = false := fun W h => by
          rw [hX] at h
          obtain ⟨d, i, h1, h2⟩ := h
          exact h1.c.frozen 2
        have X4f : ∀ W, X W → W.frozen? ⟨w.heap.size + 1 + 1 + 1 + 1, 4, none⟩ = false := fun W h => by
          rw [hX] at h
          obtain ⟨d, i, h1, h2⟩ := h
          exact h1.c.frozen 4
        have XE := Lib.hid (fun W (h : X W) => show CmSt w ((W.setCell ⟨w.heap.size + 1 + 1 + 1 + 1, 2, none⟩ (.string j1)).setCell ⟨w.heap.size + 1 + 1 + 1 + 1, 4, none⟩ (.string j2)) (.slice TA tn tc) me here #[.string V, .string AG, .string j1, .string ⟨p.2.toArray⟩, .string j2, .slice (some ⟨ga, o, none⟩) args.length c, .int .i64 0, .int .i64 0] ∧ StrO ((W.setCell ⟨w.heap.size + 1 + 1 + 1 + 1, 2, none⟩ (.string j1)).setCell ⟨w.heap.size + 1 + 1 + 1 + 1, 4, none⟩ (.string j2)) (some ⟨ga, o, none⟩) args by
          rw [hX] at h
          obtain ⟨d, i, h1, h2⟩ := h
          exact ⟨(h1.set_ 2 _).set_ 4 _, (h2.far hgC).far hgC⟩)
        have hbd := join_tot (args.take p.1)
        have hbd2 := totL_take args p.1
        have hbe := join_tot (args.drop (p.1 + 1))
        have hbe2 := totL_drop args (p.1 + 1)
        have hX0 : X ((w7.setCell ⟨w.heap.size + 1 + 1 + 1 + 1, 2, none⟩ (.string ⟨(Lib.join args [32]).toArray⟩)).setCell ⟨w.heap.size + 1 + 1 + 1 + 1, 3, none⟩ (.string ⟨p.2.toArray⟩)) := by
          rw [hX]
          exact ⟨_, _, (HC7.out.set_ 2 _).set_ 3 _, (HS7.out.far hgC).far hgC⟩
        have HX0 := Lib.hid hX0
        have JT := Lib.hid (fun W (h : X W) => show Calls Tryd.prog 17 #[.slice (some ⟨ga, o, none⟩) p.1 c, .string ⟨#[32]⟩] W fun e W' => e = .returned (.string j1) ∧ X W' from by
          have hq : (args.take p.1).length = p.1 := by rw [List.length_take]; omega
          have := join_o (W := W) (A := some ⟨ga, o, none⟩) (cap := c) (l := args.take p.1) (⟨#[32]⟩ : ByteArray) ((XS.out W h).take p.1) (by omega) (by omega) (by show (Lib.join (args.take p.1) [32]).length ≤ _; omega)
          rw [hq, show (⟨(Lib.join (args.take p.1) (⟨#[32]⟩ : ByteArray).data.toList).toArray⟩ : ByteArray) = j1 from hj1.symm] at this
          exact this.mono fun e W' ⟨h1, h2⟩ => ⟨h1, XM W W' h h2⟩)
        obtain ⟨wq, hwq⟩ : ∃ wq, wq = (w7.setCell ⟨w.heap.size + 1 + 1 + 1 + 1, 2, none⟩ (.string ⟨(Lib.join args [32]).toArray⟩)).setCell ⟨w.heap.size + 1 + 1 + 1 + 1, 3, none⟩ (.string ⟨p.2.toArray⟩) := ⟨_, rfl⟩
        rw [← hwq] at HX0
        have hpz : ((p.1 : Int) + 1).toNat = p.1 + 1 := by omega
        have hp0 : (0 : Int) ≤ (p.1 : Int) := by omega
        have hp1 : (p.1 : Int) ≤ (args.length : Int) := by omega
        have hp2 : (p.1 : Int) + 1 ≤ (args.length : Int) := by omega
        have hp3 : (p.1 : Int) ≤ (c : Int) := by omega
        have hp4 : (0 : Int) ≤ (p.1 : Int) + 1 := by omega
        have hp5 : IntKind.i64.wrap ((p.1 : Int) + 1) = (p.1 : Int) + 1 := IntWalk.i64_in _ (by omega)
        have hacI : (args.length : Int) ≤ (c : Int) := by omega
        have hp6 : p.1 + 1 ≤ args.length := by omega
        have hp7 : p.1 ≤ args.length := by omega
        have hp8 : p.1 ≤ c := by omega
        have hp9 : p.1 + 1 ≤ c := by omega
        obtain ⟨A2, hA2⟩ : ∃ A2 : Option Addr, A2 = (if c = p.1 + 1 then some ⟨ga, o, none⟩ else some ⟨ga, o + (p.1 + 1), none⟩) := ⟨_, rfl⟩
        have hite : (if c = p.1 + 1 then some (⟨ga, o, none⟩ : Addr) else some ⟨ga, o + (p.1 + 1), none⟩) = A2 := hA2.symm
        have JD := Lib.hid (fun W (h : X W) => show Calls Tryd.prog 17 #[.slice A2 (args.length - (p.1 + 1)) (c - (p.1 + 1)), .string ⟨#[32]⟩] W fun e W' => e = .returned (.string j2) ∧ X W' from by
          have hq : (args.drop (p.1 + 1)).length = args.length - (p.1 + 1) := by rw [List.length_drop]
          have hs2 : StrO W A2 (args.drop (p.1 + 1)) := by
            rw [hA2]
            by_cases hcc : c = p.1 + 1
            · exact .inl (List.eq_nil_of_length_eq_zero (by rw [hq]; omega))
            · rw [if_neg hcc]; exact (XS.out W h).drop (p.1 + 1)
          have := join_o (W := W) (A := A2) (cap := c - (p.1 + 1)) (l := args.drop (p.1 + 1)) (⟨#[32]⟩ : ByteArray) hs2 (by omega) (by omega) (by show (Lib.join (args.drop (p.1 + 1)) [32]).length ≤ _; omega)
          rw [hq, show (⟨(Lib.join (args.drop (p.1 + 1)) (⟨#[32]⟩ : ByteArray).data.toList).toArray⟩ : ByteArray) = j2 from hj2.symm] at this
          exact this.mono fun e W' ⟨h1, h2⟩ => ⟨h1, XM W W' h h2⟩)
        clear hA2
        obtain ⟨S, hS⟩ : ∃ S : World → Prop, S = fun W => W.cell? ⟨w.heap.size + 1 + 1 + 1 + 1, 5, none⟩ = some (.slice (some ⟨ga, o, none⟩) args.length c) ∧ X W := ⟨_, rfl⟩
        have SX : ∀ W, S W → X W := fun W h => by rw [hS] at h; exact h.2
        have XSS : ∀ W, X W → S W := fun W h => by rw [hS]; exact ⟨X5 W h, h⟩
        have C1 := Lib.hid (fun W (h : S W) => (JT.out W (SX W h)).mono (R' := fun e W' => e = .returned (.string j1) ∧ S W') fun e W' h' => ⟨h'.1, XSS _ h'.2⟩)
        have C2 := Lib.hid (fun W (h : S W) => (JD.out W (SX W h)).mono (R' := fun e W' => e = .returned (.string j2) ∧ S W') fun e W' h' => ⟨h'.1, XSS _ h'.2⟩)
        have K0 : S wq.drew := XSS _ (XM _ _ HX0.out ((Below.refl _ _).drew))
        have L2 : ∀ W v, S W → S (W.setCell ⟨w.heap.size + 1 + 1 + 1 + 1, 2, none⟩ v) := fun W v h => XSS _ (K2 W v (SX W h))
        have L4 : ∀ W v, S W → S (W.setCell ⟨w.heap.size + 1 + 1 + 1 + 1, 4, none⟩ v) := fun W v h => XSS _ (K4 W v (SX W h))
        clear hpa hcp hX hX0 XSS K2 K4 X5 X2 X4 SX XM hj1 hj2
        subst hS
        go_wp2_with fail
        rw [← hwq]
        clear hwq
        go_region_held3 (fun W => W.cell? ⟨w.heap.size + 1 + 1 + 1 + 1, 5, none⟩ = some (.slice (some ⟨ga, o, none⟩) args.length c) ∧ X W)
          (first | (with_reducible assumption) | (with_reducible exact K0) | (with_reducible exact L2 _ _ (by assumption)) | (with_reducible exact L4 _ _ (by assumption)) | (with_reducible exact L4 _ _ (L2 _ _ (by assumption))))
          (first
            | (go_at_call 17; with_reducible refine (C1.out _ ?_).mono ?_; (first | (with_reducible assumption) | (with_reducible exact ⟨by assumption, by assumption⟩)); rintro e w8 ⟨rfl, hs8⟩)
            | (go_at_call 17; with_reducible refine (C2.out _ ?_).mono ?_; (first | (with_reducible assumption) | (with_reducible exact ⟨by assumption, by assumption⟩)); rintro e w9 ⟨rfl, hs9⟩)
            )
        go_wp2_with fail
        go_meet
        have hx := XE.out w9 hs9.2
        rw [HDP.out.1, HDP.out.2.1, HDP.out.2.2]
        exact ⟨Lib.hid hx.2, Lib.hid hx.1⟩
    case rest =>
      obtain ⟨HS, HC⟩ := hcut
      have hAC := Lib.hid (fun (g o : Nat) (h : A = some ⟨g, o, none⟩) => show g ≠ w.heap.size + 1 + 1 + 1 + 1 by have := HA.out g o h; omega)
      obtain ⟨D1, hD1⟩ : ∃ d, d = meansI me here ob (cmdParts args).1 := ⟨_, rfl⟩
      obtain ⟨I1, hI1⟩ : ∃ d, d = meansI me here ob (cmdParts args).2.2 := ⟨_, rfl⟩
      obtain ⟨X, hX⟩ : ∃ X : World → Prop, X = fun W => ∃ d i, CmSt w W (.slice TA tn tc) me here #[.string V, .string AG, .string DO, .string PO, .string IO_, .slice A args.length c, d, i] ∧ StrO W A args := ⟨_, rfl⟩
      have XM : ∀ W W', X W → Below W.heap.size W W' → X W' := fun W W' h hb => by
        rw [hX] at h ⊢
        obtain ⟨d, i, h1, h2⟩ := h
        exact ⟨d, i, h1.move hb, h2.below hb⟩
      have X2 : ∀ W, X W → W.cell? ⟨w.heap.size + 1 + 1 + 1 + 1, 2, none⟩ = some (.string DO) := fun W h => by
        rw [hX] at h
        obtain ⟨d, i, h1, h2⟩ := h
        exact h1.c.cell 2
      have X4 : ∀ W, X W → W.cell? ⟨w.heap.size + 1 + 1 + 1 + 1, 4, none⟩ = some (.string IO_) := fun W h => by
        rw [hX] at h
        obtain ⟨d, i, h1, h2⟩ := h
        exact h1.c.cell 4
      have K6 : ∀ W v, X W → X (W.setCell ⟨w.heap.size + 1 + 1 + 1 + 1, 6, none⟩ v) := fun W v h => by
        rw [hX] at h ⊢
        obtain ⟨d, i, h1, h2⟩ := h
        exact ⟨v, i, h1.set_ 6 v, h2.off hAC.out⟩
      have K7 : ∀ W v, X W → X (W.setCell ⟨w.heap.size + 1 + 1 + 1 + 1, 7, none⟩ v) := fun W v h => by
        rw [hX] at h ⊢
        obtain ⟨d, i, h1, h2⟩ := h
        exact ⟨d, v, h1.set_ 7 v, h2.off hAC.out⟩
      have X6 : ∀ W, ∃ u, X W → W.cell? ⟨w.heap.size + 1 + 1 + 1 + 1, 6, none⟩ = some u := fun W => by
        rw [hX]
        by_cases h : ∃ d i, CmSt w W (.slice TA tn tc) me here #[.string V, .string AG, .string DO, .string PO, .string IO_, .slice A args.length c, d, i] ∧ StrO W A args
        · obtain ⟨d, i, h1, h2⟩ := h
          exact ⟨d, fun _ => h1.c.cell 6⟩
        · exact ⟨undef, fun h' => absurd h' h⟩
      have X7 : ∀ W, ∃ u, X W → W.cell? ⟨w.heap.size + 1 + 1 + 1 + 1, 7, none⟩ = some u := fun W => by
        rw [hX]
        by_cases h : ∃ d i, CmSt w W (.slice TA tn tc) me here #[.string V, .string AG, .string DO, .string PO, .string IO_, .slice A args.length c, d, i] ∧ StrO W A args
        · obtain ⟨d, i, h1, h2⟩ := h
          exact ⟨i, fun _ => h1.c.cell 7⟩
        · exact ⟨undef, fun h' => absurd h' h⟩
      obtain ⟨u6_, hu6⟩ := Classical.axiomOfChoice X6
      obtain ⟨u7_, hu7⟩ := Classical.axiomOfChoice X7
      have X6f : ∀ W, X W → W.frozen? ⟨w.heap.size + 1 + 1 + 1 + 1, 6, none⟩ = false := fun W h => by
        rw [hX] at h
        obtain ⟨d, i, h1, h2⟩ := h
        exact h1.c.frozen 6
      have X7f : ∀ W, X W → W.frozen? ⟨w.heap.size + 1 + 1 + 1 + 1, 7, none⟩ = false := fun W h => by
        rw [hX] at h
        obtain ⟨d, i, h1, h2⟩ := h
        exact h1.c.frozen 7
      have XE := Lib.hid (fun W (h : X W) => show CmSt w ((W.setCell ⟨w.heap.size + 1 + 1 + 1 + 1, 6, none⟩ (.int .i64 D1)).setCell ⟨w.heap.size + 1 + 1 + 1 + 1, 7, none⟩ (.int .i64 I1)) (.slice TA tn tc) me here #[.string V, .string AG, .string DO, .string PO, .string IO_, .slice A args.length c, .int .i64 D1, .int .i64 I1] ∧ StrO ((W.setCell ⟨w.heap.size + 1 + 1 + 1 + 1, 6, none⟩ (.int .i64 D1)).setCell ⟨w.heap.size + 1 + 1 + 1 + 1, 7, none⟩ (.int .i64 I1)) A args by
        rw [hX] at h
        obtain ⟨d, i, h1, h2⟩ := h
        exact ⟨(h1.set_ 6 _).set_ 7 _, (h2.off hAC.out).off hAC.out⟩)
      have XC := Lib.hid (fun W (h : X W) (d : List UInt8) (hd : d.length ≤ 100000) (hdd : d = (cmdParts args).1 ∨ d = (cmdParts args).2.2) => show Calls Tryd.prog 18 #[.string ⟨d.toArray⟩, .pointer (some ⟨w.heap.size + 1, 0, none⟩), .pointer (some ⟨w.heap.size + 1 + 1, 0, none⟩), .pointer (some ⟨w.heap.size, 0, none⟩)] W fun e W' => e = .returned (.int .i64 (meansI me here ob d)) ∧ X W' from by
        have h0 := h
        rw [hX] at h
        obtain ⟨d', i', h1, h2⟩ := h
        exact (objc_c d (.slice TA tn tc) me here ob _ _ _ W (hob.below h1.below) h1.m h1.h h1.t hd (hP1 d (by rw [← HARG.out]; exact hdd))).mono fun e W' ⟨h3, h4⟩ => ⟨h3, XM W W' h0 h4⟩)
      have hX0 : X wc := by rw [hX]; exact ⟨_, _, HC.out, HS.out⟩
      have hbd : (cmdParts args).1.length ≤ 100000 := by
        unfold cmdParts
        cases prepAt args with
        | none => have := join_tot args; show (Lib.join args [32]).length ≤ _; omega
        | some p => have := join_tot (args.take p.1); have := totL_take args p.1; show (Lib.join (args.take p.1) [32]).length ≤ _; omega
      have hbi : (cmdParts args).2.2.length ≤ 100000 := by
        unfold cmdParts
        cases prepAt args with
        | none => show (0 : Nat) ≤ _; omega
        | some p => have := join_tot (args.drop (p.1 + 1)); have := totL_drop args (p.1 + 1); show (Lib.join (args.drop (p.1 + 1)) [32]).length ≤ _; omega
      obtain ⟨S, hS⟩ : ∃ S : World → Prop, S = fun W => W.cell? ⟨w.heap.size + 1 + 1 + 1 + 1, 2, none⟩ = some (.string DO) ∧ W.cell? ⟨w.heap.size + 1 + 1 + 1 + 1, 4, none⟩ = some (.string IO_) ∧ X W := ⟨_, rfl⟩
      have SX : ∀ W, S W → X W := fun W h => by rw [hS] at h; exact h.2.2
      have XSS : ∀ W, X W → S W := fun W h => by rw [hS]; exact ⟨X2 W h, X4 W h, h⟩
      have C1 := Lib.hid (fun W (h : S W) => (XC.out W (SX W h) _ hbd (.inl rfl)).mono (R' := fun e W' => e = .returned (.int .i64 D1) ∧ S W') fun e W' h' => ⟨by rw [hD1]; exact h'.1, XSS _ h'.2⟩)
      have C2 := Lib.hid (fun W (h : S W) => (XC.out W (SX W h) _ hbi (.inr rfl)).mono (R' := fun e W' => e = .returned (.int .i64 I1) ∧ S W') fun e W' h' => ⟨by rw [hI1]; exact h'.1, XSS _ h'.2⟩)
      rw [← HDO.out] at C1
      rw [← HIO.out] at C2
      have K0 : S wc.drew := XSS _ (XM _ _ hX0 ((Below.refl _ _).drew))
      have L6 : ∀ W v, S W → S (W.setCell ⟨w.heap.size + 1 + 1 + 1 + 1, 6, none⟩ v) := fun W v h => XSS _ (K6 W v (SX W h))
      have L7 : ∀ W v, S W → S (W.setCell ⟨w.heap.size + 1 + 1 + 1 + 1, 7, none⟩ v) := fun W v h => XSS _ (K7 W v (SX W h))
      have HD1 := Lib.hid hD1
      have HI1 := Lib.hid hI1
      clear hX hX0 XSS K6 K7 X2 X4 X6 X7 SX XM hD1 hI1 hpp c0 c2 f2 c5
      subst hS
      go_wp2_with fail
      go_region_held3 (fun W => W.cell? ⟨w.heap.size + 1 + 1 + 1 + 1, 2, none⟩ = some (.string DO) ∧ W.cell? ⟨w.heap.size + 1 + 1 + 1 + 1, 4, none⟩ = some (.string IO_) ∧ X W)
        (first | (with_reducible assumption) | (with_reducible exact K0) | (with_reducible exact L6 _ _ (by assumption)) | (with_reducible exact L7 _ _ (by assumption)) | (with_reducible exact L7 _ _ (L6 _ _ (by assumption))))
        (first
          | (go_at_call 18; with_reducible refine (C1.out _ ?_).mono ?_; (first | (with_reducible assumption) | (with_reducible exact ⟨by assumption, by assumption, by assumption⟩)); rintro e w8 ⟨rfl, hs8⟩)
          | (go_at_call 18; with_reducible refine (C2.out _ ?_).mono ?_; (first | (with_reducible assumption) | (with_reducible exact ⟨by assumption, by assumption, by assumption⟩)); rintro e w9 ⟨rfl, hs9⟩))
      have hx := XE.out w9 hs9.2.2
      obtain ⟨wz, hwz⟩ : ∃ wz, wz = (w9.setCell ⟨w.heap.size + 1 + 1 + 1 + 1, 6, none⟩ (.int .i64 D1)).setCell ⟨w.heap.size + 1 + 1 + 1 + 1, 7, none⟩ (.int .i64 I1) := ⟨_, rfl⟩
      rw [← hwz] at hx ⊢
      clear hwz
      have HX := Lib.hid hx
      have b0 : wz.cell? ⟨w.heap.size + 1 + 1 + 1 + 1, 0, none⟩ = some (.string V) := hx.1.c.cell 0
      have b1 : wz.cell? ⟨w.heap.size + 1 + 1 + 1 + 1, 1, none⟩ = some (.string AG) := hx.1.c.cell 1
      have b2 : wz.cell? ⟨w.heap.size + 1 + 1 + 1 + 1, 2, none⟩ = some (.string DO) := hx.1.c.cell 2
      have b3 : wz.cell? ⟨w.heap.size + 1 + 1 + 1 + 1, 3, none⟩ = some (.string PO) := hx.1.c.cell 3
      have b4 : wz.cell? ⟨w.heap.size + 1 + 1 + 1 + 1, 4, none⟩ = some (.string IO_) := hx.1.c.cell 4
      have b5 : wz.cell? ⟨w.heap.size + 1 + 1 + 1 + 1, 5, none⟩ = some (.slice A args.length c) := hx.1.c.cell 5
      have b6 : wz.cell? ⟨w.heap.size + 1 + 1 + 1 + 1, 6, none⟩ = some (.int .i64 D1) := hx.1.c.cell 6
      have b7 : wz.cell? ⟨w.heap.size + 1 + 1 + 1 + 1, 7, none⟩ = some (.int .i64 I1) := hx.1.c.cell 7
      have hr_ := hx.1.r
      have e0 := hr_.cell 0; have e1 := hr_.cell 1; have e2 := hr_.cell 2; have e3 := hr_.cell 3; have e4 := hr_.cell 4; have e5 := hr_.cell 5; have e6 := hr_.cell 6; have e7 := hr_.cell 7
      have g0 := hr_.frozen 0; have g1 := hr_.frozen 1; have g2 := hr_.frozen 2; have g3 := hr_.frozen 3; have g4 := hr_.frozen 4; have g5 := hr_.frozen 5; have g6 := hr_.frozen 6; have g7 := hr_.frozen 7
      clear hx hr_ C1 C2 K0 L6 L7 hs8 hs9
      go_wp2_with fail
      have hB := (HX.out.1.r).set8 (.string V) (.string AG) (.string DO) (.string PO) (.string IO_) (.slice A args.length c) (.int .i64 D1) (.int .i64 I1)
      have hAR : ∀ (g o : Nat), A = some ⟨g, o, none⟩ → g ≠ w.heap.size + 1 + 1 + 1 := fun g o h => by have := HA.out g o h; omega
      refine ret_cmd (p := 8) (by kernel_rfl) (w.heap.size + 1 + 1 + 1) rfl rfl hB ?_
      refine ⟨A, c, ?_, ?_, fun g o h => by have := HA.out g o h; omega, ?_, below_set8 HX.out.1.below (by omega) _ _ _ _ _ _ _ _⟩
      · rw [HV.out, HAG.out, HDO.out, HPO.out, HIO.out, HD1.out, HI1.out, HARG.out]
      · rw [← HARG.out]; exact hac
      · rw [← HARG.out]
        exact (((((((HX.out.2.off hAR).off hAR).off hAR).off hAR).off hAR).off hAR).off hAR).off hAR
theorem parse_c (s : ByteArray) (TA : Option Addr) (tn tc : Nat) (me here : Int) (ob : List UInt8 → Int) {P : List UInt8 → Prop} (w : World) (ht : SpaceAt w) (hr : 10 < w.heap.size) (hob : ObC (.slice TA tn tc) ob P w) (hs : s.size ≤ 10000)
    (hP1 : ∀ d, d = (cmdParts (cmdHead s.data.toList).2.2).1 ∨ d = (cmdParts (cmdHead s.data.toList).2.2).2.2 → d ≠ meL → d ≠ hereL → P d) :
    Calls Tryd.prog 9 #[.string s, .slice TA tn tc, .int .i64 me, .int .i64 here] w (CmdOut s.data.toList me here ob w) :=
  (parse_c2 s TA tn tc me here ob w ht hr hob hs hP1).mono fun e w' ⟨A, c, h1, h2, _, h4, h5⟩ => ⟨A, c, h1, h2, h4, h5⟩
end Go.Proofs.YtcnfbdabbnhjlaaDoor
namespace Go.Proofs.YtcnfbdabbnhjlaaDoor
open Go.RowKit Go.Lib
set_option linter.unusedVariables false

/-- What a word means, where there are no things. -/
def obN (d : List UInt8) : Int := if d = [] then -1 else -3
theorem obN_c {w : World} {ea : Nat → Addr} (he : ErrsAt w ea) : ObC (.slice none 0 0) obN (fun _ => True) w := fun d W _ hW hd =>
  (obj_nil ⟨d.toArray⟩ ea W (he.below hW (by have := he.room; omega)) (by simp [ByteArray.size]; omega)).mono fun e w' ⟨h1, h2⟩ => ⟨h1, h2⟩
def firstC : List UInt8 := [112, 117, 116, 32, 98, 97, 108, 108, 32, 105, 110, 32, 98, 111, 120]
theorem firstC_head : cmdHead firstC = ([112, 117, 116], [98, 97, 108, 108, 32, 105, 110, 32, 98, 111, 120], [[98, 97, 108, 108], [105, 110], [98, 111, 120]]) := by decide +kernel
theorem firstC_parts : cmdParts [[98, 97, 108, 108], [105, 110], [98, 111, 120]] = ([98, 97, 108, 108], [105, 110], [98, 111, 120]) := by decide +kernel
set_option maxRecDepth 100000 in
set_option maxHeartbeats 1000000 in
theorem cfirst_c (ea : Nat → Addr) (w : World) (he : ErrsAt w ea) (ht : SpaceAt w) : Calls Tryd.prog 6 #[] w fun e w' => e = .returned (.bool true) ∧ Below w.heap.size w w' := by
  have PC := Lib.hid (by
    have := parse_c ⟨firstC.toArray⟩ none 0 0 1 2 obN w ht he.room (obN_c he) (by decide) (fun _ _ _ _ => trivial)
    unfold CmdOut at this
    rw [show (⟨firstC.toArray⟩ : ByteArray).data.toList = firstC from rfl, firstC_head] at this
    simp only at this
    rw [firstC_parts] at this
    exact this)
  clear he ht
  go_enter Tryd.func6, Tryd.ntmps6
  go_wp2_with fail
  refine PC.out.mono ?_
  rintro e w1 ⟨A, c, rfl, _, _, hb⟩
  have HB := Lib.hid hb
  clear hb
  go_wp2_with fail
  go_ret
  exact ⟨rfl, HB.out.alloc HB.out.size _⟩

theorem byteArr_mk (b : ByteArray) : (⟨b.data.toList.toArray⟩ : ByteArray) = b := by cases b; simp
set_option maxRecDepth 100000 in
set_option maxHeartbeats 1000000 in
theorem sameT_c (A B : Option Addr) (c d : Nat) (l : List (List UInt8)) (w : World) (h : StrO w A l) (k : StrO w B l) (hl : l.length ≤ 1000000) :
    Calls Tryd.prog 10 #[.slice A l.length c, .slice B l.length d] w fun e w' => e = .returned (.bool true) ∧ ∃ n, w' = w.drewN n := by
  have HA := Lib.hid h
  have HB := Lib.hid k
  clear h k
  have hne : ((l.length : Int) != (l.length : Int)) = false := by simp
  go_enter Tryd.func10, Tryd.ntmps10
  go_wp2_with fail
  go_loopg [5, 6] l.length (fun kk iv sv wr => ∃ (i n : Nat), iv = .int .i64 (i : Int) ∧ i + kk = l.length ∧ w.drewN n = wr)
  case atStart => exact ⟨0, 0, rfl, by omega, rfl⟩
  case round =>
    obtain ⟨i, n, rfl, hk, rfl⟩ := hrel
    by_cases hi : i < l.length
    · obtain ⟨kk, rfl⟩ : ∃ kk, gk = kk + 1 := ⟨gk - 1, by omega⟩
      obtain ⟨x, hx⟩ : ∃ x, l[i]? = some x := ⟨_, List.getElem?_eq_getElem hi⟩
      obtain ⟨ga, oa, rfl, hga, hca⟩ : ∃ g o, A = some ⟨g, o, none⟩ ∧ g < w.heap.size ∧ ∀ j x, l[j]? = some x → w.cell? ⟨g, o + j, none⟩ = some (.string ⟨x.toArray⟩) := by
        rcases HA.out with h | h
        · rw [h] at hi; exact absurd hi (Nat.not_lt_zero _)
        · exact h
      obtain ⟨gb, ob, rfl, hgb, hcb⟩ : ∃ g o, B = some ⟨g, o, none⟩ ∧ g < w.heap.size ∧ ∀ j x, l[j]? = some x → w.cell? ⟨g, o + j, none⟩ = some (.string ⟨x.toArray⟩) := by
        rcases HB.out with h | h
        · rw [h] at hi; exact absurd hi (Nat.not_lt_zero _)
        · exact h
      have ca := hca i x hx
      have cb := hcb i x hx
      have b0 : (0 : Int) ≤ (i : Int) := by omega
      have b1 : (i : Int) < (l.length : Int) := by omega
      clear hca hcb hx
      go_wp2_with fail
      go_quiet (fail)
      go_wp2_with fail
      go_roundg kk
      case measure => omega
      case rel => exact ⟨i + 1, _, by go_num, by omega, rfl⟩
    · have hge : ¬ (i : Int) < (l.length : Int) := by omega
      go_wp2_with fail
      go_ret
      exact ⟨rfl, n, rfl⟩
end Go.Proofs.YtcnfbdabbnhjlaaDoor
namespace Go.Proofs.YtcnfbdabbnhjlaaDoor
open Go.RowKit Go.Lib
set_option linter.unusedVariables false

/-- Are two lists of values alike? -/
def sameL : VL → VL → Bool
  | .nil, .nil => true
  | .cons k n s a r, .cons k' n' s' a' r' => (sameL a a' && decide (k = k') && decide (n = n') && decide (s = s')) && sameL r r'
  | _, _ => false
/-- Are two values alike? -/
def same1 (k n : Int) (s : ByteArray) (a : VL) (k' n' : Int) (s' : ByteArray) (a' : VL) : Bool := sameL a a' && decide (k = k') && decide (n = n') && decide (s = s')
theorem sameL_iff : ∀ a b : VL, sameL a b = true ↔ a = b
  | .nil, .nil => by simp [sameL]
  | .nil, .cons .. => by simp [sameL]
  | .cons .., .nil => by simp [sameL]
  | .cons k n s a r, .cons k' n' s' a' r' => by
    rw [sameL, Bool.and_eq_true, Bool.and_eq_true, Bool.and_eq_true, Bool.and_eq_true, sameL_iff a a', sameL_iff r r', decide_eq_true_eq, decide_eq_true_eq, decide_eq_true_eq]
    constructor
    · rintro ⟨⟨⟨⟨rfl, rfl⟩, rfl⟩, rfl⟩, rfl⟩; rfl
    · intro h; injection h with h1 h2 h3 h4 h5; exact ⟨⟨⟨⟨h4, h1⟩, h2⟩, h3⟩, h5⟩
theorem same1_iff {k n : Int} {s : ByteArray} {a : VL} {k' n' : Int} {s' : ByteArray} {a' : VL} : same1 k n s a k' n' s' a' = true ↔ k = k' ∧ n = n' ∧ s = s' ∧ a = a' := by
  unfold same1
  rw [Bool.and_eq_true, Bool.and_eq_true, Bool.and_eq_true, sameL_iff, decide_eq_true_eq, decide_eq_true_eq, decide_eq_true_eq]
  constructor
  · rintro ⟨⟨⟨rfl, rfl⟩, rfl⟩, rfl⟩; exact ⟨rfl, rfl, rfl, rfl⟩
  · rintro ⟨rfl, rfl, rfl, rfl⟩; exact ⟨⟨⟨rfl, rfl⟩, rfl⟩, rfl⟩
theorem sameL_len : ∀ a b : VL, a.len ≠ b.len → sameL a b = false
  | a, b, h => by
    cases hq : sameL a b with
    | false => rfl
    | true => rw [(sameL_iff a b).1 hq] at h; exact absurd rfl h
theorem sameL_drop {a b : VL} {i : Nat} {k n : Int} {s : ByteArray} {x : VL} {k' n' : Int} {s' : ByteArray} {x' : VL} (ha : a.drop i = .cons k n s x (a.drop (i + 1))) (hb : b.drop i = .cons k' n' s' x' (b.drop (i + 1))) :
    sameL (a.drop i) (b.drop i) = (same1 k n s x k' n' s' x' && sameL (a.drop (i + 1)) (b.drop (i + 1))) := by rw [ha, hb]; rfl
end Go.Proofs.YtcnfbdabbnhjlaaDoor
namespace Go.Proofs.YtcnfbdabbnhjlaaDoor
open Go.RowKit Go.Lib
set_option linter.unusedVariables false

theorem beq_dec (a b : Int) : (a == b) = decide (a = b) := by
  by_cases h : a = b
  · subst h; simp
  · rw [decide_eq_false h, beq_eq_false_iff_ne]; exact h
theorem sbeq_dec (a b : ByteArray) : (a.toList == b.toList) = decide (a = b) := by
  by_cases h : a = b
  · subst h; simp
  · rw [decide_eq_false h]; exact str_ne h

end Go.Proofs.YtcnfbdabbnhjlaaDoor
namespace Go.Proofs.YtcnfbdabbnhjlaaDoor
open Go.RowKit Go.Lib
set_option linter.unusedVariables false

theorem rp_at {w : World} {l : VL} {A : Option Addr} {S : Nat → Prop} {i : Nat} (h : RpL w S l A) (hi : i < l.len) : ∃ (b o : Nat) (k n : Int) (s : ByteArray) (sub : VL) (sa : Option Addr) (sc : Nat), A = some ⟨b, o, none⟩ ∧ l.drop i = .cons k n s sub (l.drop (i + 1)) ∧ S b ∧
    w.cell? ⟨b, o + i * 4, none⟩ = some (.int .i64 k) ∧ w.cell? ⟨b, o + i * 4 + 1, none⟩ = some (.int .i64 n) ∧ w.cell? ⟨b, o + i * 4 + 2, none⟩ = some (.string s) ∧ w.cell? ⟨b, o + i * 4 + 3, none⟩ = some (.slice sa sub.len sc) ∧ sub.len ≤ sc ∧ RpL w S sub sa ∧ sub.size < l.size := by
  obtain ⟨k, n, s, sub, hd⟩ := VL.drop_of_lt i l hi
  obtain ⟨b, o, hA⟩ : ∃ b o, A = some ⟨b, o, none⟩ := by
    cases l with
    | nil => simp [VL.len] at hi
    | cons _ _ _ _ _ => obtain ⟨b, o, _, _, h, _⟩ := h; exact ⟨b, o, h⟩
  subst hA
  have hdr := RpL.drop i l b o h
  rw [hd] at hdr
  obtain ⟨b', o', sa', sc', hA, hSb, c0, c1, c2, c3, hcl, hrs, _⟩ := hdr
  injection hA with hA
  injection hA with hA1 hA2
  subst hA1
  subst hA2
  have hszd := VL.size_drop i l
  rw [hd] at hszd
  simp only [VL.size] at hszd
  rw [Nat.mul_comm 4 i] at c0 c1 c2 c3
  exact ⟨b, o, k, n, s, sub, sa', sc', rfl, hd, hSb, c0, c1, c2, c3, hcl, hrs, by omega⟩

end Go.Proofs.YtcnfbdabbnhjlaaDoor
