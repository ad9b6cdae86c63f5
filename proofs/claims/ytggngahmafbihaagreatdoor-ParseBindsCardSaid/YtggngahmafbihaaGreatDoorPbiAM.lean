/- Contracts of the functions that the statement reaches, and the plain mathematics beneath: several texts joined. -/
import Derived.Laws.AppendOwnNone
import Derived.Maps.AppendAt
import Derived.Test.YtggngahmafbihaaGreatDoorPbiAF
import Derived.Test.YtggngahmafbihaaGreatDoorPbiAH
import Derived.Test.YtggngahmafbihaaGreatDoorPbiAG
namespace Go.Proofs.YtggngahmafbihaaGreatDoor
open Go.RowKit Go.Lib
set_option linter.unusedVariables false

theorem ext_split {s : ByteArray} {a r : List UInt8} {i : Nat} (hd : s.data.toList.drop i = a ++ r) : (s.extract i (i + a.length)).data.toList = a := by
  rw [ByteArray.data_extract, Array.toList_extract, List.extract_eq_take_drop, hd, show i + a.length - i = a.length by omega, List.take_left]
/-- No letter and no digit goes on. -/
def Stop (r : List UInt8) : Prop := ∀ c t, r = c :: t → smB c = false ∧ gtB c = false ∧ digB c = false
end Go.Proofs.YtggngahmafbihaaGreatDoor
namespace Go.Proofs.YtggngahmafbihaaGreatDoor
open Go.RowKit Go.Lib
set_option linter.unusedVariables false

theorem allSp_end {s : ByteArray} {i : Nat} {line : Int} {out : List Tok} (h : ¬ i < s.size) : ∀ f, allSp s f i line out = .inr out
  | 0 => rfl
  | f + 1 => by rw [allSp, if_neg h]
theorem allSp_word {s : ByteArray} {f i n : Nat} {line : Int} {out : List Tok} {t : Tok} (h : i < s.size) (h10 : pk s i ≠ 10) (h32 : pk s i ≠ 32) (hw : wordR s i line = .word n t) : allSp s (f + 1) i line out = allSp s f (i + n) line (out ++ [t]) := by
  rw [allSp, if_pos h, if_neg h10, if_neg h32, hw]
theorem allSp_bad {s : ByteArray} {f i c : Nat} {line : Int} {out : List Tok} (h : i < s.size) (h10 : pk s i ≠ 10) (h32 : pk s i ≠ 32) (hw : wordR s i line = .bad c) : allSp s (f + 1) i line out = .inl (c, line) := by
  rw [allSp, if_pos h, if_neg h10, if_neg h32, hw]
/-- A literal that a word may be. -/
def LitOk (k n : Int) (t : ByteArray) : Prop := ownE k n t 0 = 0 ∧ k ≠ 4 ∧ (k = 0 → 0 ≤ n) ∧ t.size < 4096 ∧ -9223372036854775808 ≤ n ∧ n ≤ 9223372036854775807
end Go.Proofs.YtggngahmafbihaaGreatDoor
namespace Go.Proofs.YtggngahmafbihaaGreatDoor
open Go.RowKit Go.Lib
set_option linter.unusedVariables false

/-- A name's letters. -/
def nameL (l : List UInt8) : Prop := ∃ c r, l = c :: r ∧ smB c = true ∧ (∀ x ∈ l, (smB x || digB x) = true) ∧ l.length ≤ 32
/-- A word that lex may have read. -/
def TokOk (t : Tok) : Prop :=
  (t.kind = 3 ∧ t.s = ⟨#[]⟩ ∧ LitOk t.k t.n t.t) ∨
  ((t.kind = if keysL.contains t.s then 2 else 1) ∧ nameL t.s.data.toList ∧ t.k = 0 ∧ t.n = 0 ∧ t.t = ⟨#[]⟩) ∨
  (t.kind = 4 ∧ t.s ∈ signsL ∧ t.k = 0 ∧ t.n = 0 ∧ t.t = ⟨#[]⟩)
end Go.Proofs.YtggngahmafbihaaGreatDoor
namespace Go.Proofs.YtggngahmafbihaaGreatDoor
open Go.RowKit Go.Lib
set_option linter.unusedVariables false

end Go.Proofs.YtggngahmafbihaaGreatDoor
namespace Go.Proofs.YtggngahmafbihaaGreatDoor
open Go.RowKit Go.Lib
set_option linter.unusedVariables false

end Go.Proofs.YtggngahmafbihaaGreatDoor
namespace Go.Proofs.YtggngahmafbihaaGreatDoor
open Go.RowKit Go.Lib
set_option linter.unusedVariables false

theorem runN_drop (s : ByteArray) (p : UInt8 → Bool) : ∀ (f i : Nat), i ≤ s.size → ∃ a r, s.data.toList.drop i = a ++ r ∧ a.length = runN s p f i ∧ ∀ c ∈ a, p c = true
  | 0, i, h => ⟨[], _, rfl, rfl, fun c hc => by cases hc⟩
  | f + 1, i, h => by
    by_cases hc : i < s.size ∧ p (pk s i) = true
    · obtain ⟨a, r, h1, h2, h3⟩ := runN_drop s p f (i + 1) (by omega)
      have hz : s.data.toList.length = s.size := by rw [Array.length_toList]; rfl
      have hd : s.data.toList.drop i = s.data.toList[i]'(by rw [hz]; exact hc.1) :: s.data.toList.drop (i + 1) := List.drop_eq_getElem_cons (by rw [hz]; exact hc.1)
      have hp := (pk_drop hd).1
      refine ⟨pk s i :: a, r, ?_, ?_, ?_⟩
      · rw [hd, ← hp, h1]; rfl
      · rw [runN, if_pos hc, List.length_cons, h2]
      · intro c hm
        rcases List.mem_cons.1 hm with rfl | hm
        · exact hc.2
        · exact h3 c hm
    · exact ⟨[], _, rfl, by rw [runN, if_neg hc]; rfl, fun c hc => by cases hc⟩
theorem quoEnd_le (s : ByteArray) : ∀ (f i j : Nat), quoEnd s f i = some j → i < j ∧ j ≤ s.size
  | 0, i, j, h => by cases h
  | f + 1, i, j, h => by
    rw [quoEnd] at h
    split at h
    · rename_i hc
      split at h
      · injection h with h; omega
      · split at h
        · have := quoEnd_le s f _ _ h; omega
        · have := quoEnd_le s f _ _ h; omega
    · cases h
end Go.Proofs.YtggngahmafbihaaGreatDoor
namespace Go.Proofs.YtggngahmafbihaaGreatDoor
open Go.RowKit Go.Lib
set_option linter.unusedVariables false

/-- Numbers in cells. -/
def ints (l : List Nat) : List Value := l.map fun (r : Nat) => Value.int .i64 (r : Int)
theorem ints_len (l : List Nat) : (ints l).length = l.length := List.length_map ..
theorem ints_app (a b : List Nat) : ints (a ++ b) = ints a ++ ints b := List.map_append
theorem int_info : (Tryz.prog.info? 3).map (fun i => (i.zero, i.size, i.bytes)) = some (some (.int .i64 0), 1, 8) := by kernel_rfl
theorem own_belowN {W W' : World} {base e size n : Nat} {v : Value} {xs : List Value} (h : W.ownsRow base e size v n xs) (hb : Below W.heap.size W W') : W'.ownsRow base e size v n xs := by
  refine ⟨h.1, ?_⟩
  rcases h.2 with h0 | ⟨g, cap, cur, hv, hb1, hh, r⟩
  · exact .inl h0
  · have hlt : g < W.heap.size := by
      rcases Nat.lt_or_ge g W.heap.size with hlt | hge
      · exact hlt
      · rw [Array.getElem?_eq_none hge] at hh; cases hh
    exact .inr ⟨g, cap, cur, hv, hb1, (hb.block g hlt).trans hh, r⟩
theorem own_geN {W : World} {base e size n : Nat} {v : Value} {xs : List Value} (h : W.ownsRow base e size v n xs) (k : Nat) (hk : v.ownBlock = some k) : base ≤ k := (h.lt k hk).1
theorem grown_belowN {B : Nat} {w w1 w2 : World} {row : Option Nat} (h : Below B w w1) (hz : B ≤ w1.heap.size) (hg : w1.grownBy w2 row) (hr : ∀ k, row = some k → B ≤ k) : Below B w w2 :=
  ⟨hg.os.trans h.os, hg.tape.trans h.tape, hg.output.trans h.output, Nat.le_trans h.size hg.size,
   fun k hk => (hg.block k (by omega) (fun e => by have := hr k e.symm; omega)).trans (h.block k hk)⟩
theorem info_partsN {P : Program} {t : TypeId} {a : Option Value} {b c : Nat} (h : (P.info? t).map (fun i => (i.zero, i.size, i.bytes)) = some (a, b, c)) : ∃ i, P.info? t = some i ∧ i.zero = a ∧ i.size = b ∧ i.bytes = c := by
  cases hq : P.info? t with
  | none => rw [hq] at h; cases h
  | some i => rw [hq] at h; injection h with h; injection h with h1 h; injection h with h2 h3; exact ⟨i, rfl, h1, h2, h3⟩

set_option maxRecDepth 100000 in
set_option maxHeartbeats 1000000 in
theorem roll_c (r k : Nat) (w : World) (hr : r ≤ 10) (hk : k ≤ 4200) :
    Calls Tryz.prog 178 #[.int .i64 (r : Int), .int .i64 (k : Int)] w fun e w' => ∃ v, e = .returned v ∧ w'.ownsRow w.heap.size 3 1 v k (ints (List.replicate k r)) ∧ Below w.heap.size w w' := by
  obtain ⟨i0, hi0, hz0, hz1, hz2⟩ := info_partsN int_info
  go_enter Tryz.func178, Tryz.ntmps178
  go_wp2_with fail
  go_loopg [5, 7] k (fun kk ov v wr => ∃ (bv : Value) (i : Nat), bv = ov ∧ v = .int .i64 i ∧ i + kk = k ∧ wr.ownsRow w.heap.size 3 1 bv i (ints (List.replicate i r)) ∧ Below w.heap.size w wr)
  case atStart => exact ⟨.slice none 0 0, 0, rfl, rfl, by omega, World.ownsRow_nil _ _ _ _, Below.refl _ _⟩
  case round =>
    obtain ⟨bv, i, rfl, rfl, hik, hrow, hbr⟩ := hrel
    have hrz := hbr.size
    by_cases hi : i < k
    · obtain ⟨g, rfl⟩ : ∃ g, gk = g + 1 := ⟨gk - 1, by omega⟩
      have HROW := Lib.hid hrow
      have HBR := Lib.hid hbr
      clear hrow hbr
      go_wp2_with (at_builtin; refine wpList_append_own _ rfl (.tmp 9) (.tmp 11) 24 rfl w.heap.size 3 i0 (.int .i64 0) 1 8 Tryz.underlying24 hi0 hz0 hz1 hz2 rfl (by decide) bv i (ints (List.replicate i r)) rfl (own_belowN HROW.out ((Below.refl _ _).alloc (Nat.le_refl _) _)) ⟨wr.heap.size, 0, none⟩ 1 1 [.int .i64 (r : Int)] rfl rfl ?c1 ?c2 ?c3 ?c4 ?c5 ?c6
                   case c1 => exact cell_one_new _ _ _
                   case c2 => intro u hu; simp at hu; subst hu; rfl
                   case c3 => unfold maxLen; omega
                   case c4 => omega
                   case c5 => simp; omega
                   intro v' w11 hown' hgrow _
                   have HB11 := Lib.hid (grown_belowN (HBR.out.alloc HBR.out.size _) (by simp; omega) hgrow (fun k hk => own_geN HROW.out k hk))
                   have HO11 := Lib.hid hown'
                   clear hown' hgrow)
      go_roundg g
      case measure => omega
      case rel => exact ⟨v', i + 1, rfl, by go_num, by omega, by
        have h := HO11.out
        have e : ints (List.replicate (i + 1) r) = ints (List.replicate i r) ++ [.int .i64 (r : Int)] := by rw [List.replicate_succ', ints_app]; rfl
        rw [e]; exact h, HB11.out⟩
    · obtain rfl : i = k := by omega
      have HROW := Lib.hid hrow
      have HBR := Lib.hid hbr
      clear hrow hbr
      go_wp2_with fail
      go_ret
      exact ⟨bv, rfl, HROW.out, HBR.out⟩
end Go.Proofs.YtggngahmafbihaaGreatDoor
namespace Go.Proofs.YtggngahmafbihaaGreatDoor
open Go.RowKit Go.Lib
set_option linter.unusedVariables false

/-- What a call of roles leaves. -/
def RolesOut (w : World) (op : Int) (n : Nat) (e : Ending) (w' : World) : Prop :=
  ∃ v, e = .returned (.tuple #[v, .bool (rolesP op n).2]) ∧ w'.ownsRow w.heap.size 3 1 v (rolesP op n).1.length (ints (rolesP op n).1) ∧ Below w.heap.size w w'
theorem ret_tup {a c : Value} {b b' : Bool} (h : b = b') : Ending.returned (.tuple #[a, .bool b]) = .returned (.tuple #[a, .bool b']) := by rw [h]
theorem eq_nat (n m : Nat) : ((n : Int) == (m : Int)) = (n == m) := by
  rw [Bool.eq_iff_iff, beq_iff_eq, beq_iff_eq]; omega
theorem le_nat (n m : Nat) : decide ((m : Int) ≤ (n : Int)) = decide (m ≤ n) := by
  rw [Bool.eq_iff_iff]; simp
theorem own_lit (w : World) {cs : Array Value} {n : Nat} {base : Nat} (hb : base ≤ w.heap.size) (hm : n ≤ maxLen) (hs : cs.size = n * 1) : (w.alloc (.cells cs 3)).ownsRow base 3 1 (.slice (some ⟨w.heap.size, 0, none⟩) n n) n cs.toList := World.ownsRow_lit w cs n hb hm hs

theorem own_lower {w : World} {base base' e size n : Nat} {v : Value} {xs : List Value} (h : w.ownsRow base e size v n xs) (hb : base' ≤ base) : w.ownsRow base' e size v n xs := by
  refine ⟨h.1, ?_⟩
  rcases h.2 with h0 | ⟨g, cap, cur, hv, hb1, r⟩
  · exact .inl h0
  · exact .inr ⟨g, cap, cur, hv, Nat.le_trans hb hb1, r⟩

set_option maxRecDepth 100000 in
set_option maxHeartbeats 2000000 in
theorem roles_1 (ln : Int) (s : ByteArray) (k n : Int) (t : ByteArray) (vv : Value) (sa : Option Addr) (m sc : Nat) (w : World) (hm : m ≤ 4096) :
    Calls Tryz.prog 150 #[.agg #[.int .i64 1, .int .i64 ln, .string s, .int .i64 k, .int .i64 n, .string t, vv, .slice sa m sc]] w (RolesOut w 1 m) := by
  obtain ⟨wa, hwa⟩ : ∃ wa, wa = w.alloc (.cells #[.int .i64 1, .int .i64 ln, .string s, .int .i64 k, .int .i64 n, .string t, vv, .slice sa m sc] 31) := ⟨_, rfl⟩
  have hb : Below w.heap.size w wa := by rw [hwa]; exact (Below.refl _ _).alloc (Nat.le_refl _) _
  have hN : NdB wa w.heap.size (.int .i64 1) (.int .i64 ln) (.string s) (.int .i64 k) (.int .i64 n) (.string t) vv (.slice sa m sc) := by rw [hwa]; exact NdB.new _ _ _ _ _ _ _ _ _
  have v0 := hN.c0; have v7 := hN.c7
  rw [hwa] at v0 v7
  have HB := Lib.hid hb
  have HWA := Lib.hid hwa
  clear hb hN hwa
  go_enter Tryz.func150, Tryz.ntmps150
  go_wp2_with fail
  rw [← HWA.out]
  go_ret2
  exact ⟨_, ret_tup (c := .nilIface) (by rw [show (0 : Int) = ((0 : Nat) : Int) from rfl, eq_nat]; rfl), World.ownsRow_nil _ _ _ _, HB.out⟩

set_option maxRecDepth 100000 in
set_option maxHeartbeats 2000000 in
theorem roles_2 (ln : Int) (s : ByteArray) (k n : Int) (t : ByteArray) (vv : Value) (sa : Option Addr) (m sc : Nat) (w : World) (hm : m ≤ 4096) :
    Calls Tryz.prog 150 #[.agg #[.int .i64 2, .int .i64 ln, .string s, .int .i64 k, .int .i64 n, .string t, vv, .slice sa m sc]] w (RolesOut w 2 m) := by
  obtain ⟨wa, hwa⟩ : ∃ wa, wa = w.alloc (.cells #[.int .i64 2, .int .i64 ln, .string s, .int .i64 k, .int .i64 n, .string t, vv, .slice sa m sc] 31) := ⟨_, rfl⟩
  have hb : Below w.heap.size w wa := by rw [hwa]; exact (Below.refl _ _).alloc (Nat.le_refl _) _
  have hN : NdB wa w.heap.size (.int .i64 2) (.int .i64 ln) (.string s) (.int .i64 k) (.int .i64 n) (.string t) vv (.slice sa m sc) := by rw [hwa]; exact NdB.new _ _ _ _ _ _ _ _ _
  have v0 := hN.c0; have v7 := hN.c7
  rw [hwa] at v0 v7
  have HB := Lib.hid hb
  have HWA := Lib.hid hwa
  clear hb hN hwa
  go_enter Tryz.func150, Tryz.ntmps150
  go_wp2_with fail
  rw [← HWA.out]
  go_ret2
  exact ⟨_, ret_tup (c := .nilIface) (by rw [show (0 : Int) = ((0 : Nat) : Int) from rfl, eq_nat]; rfl), World.ownsRow_nil _ _ _ _, HB.out⟩

set_option maxRecDepth 100000 in
set_option maxHeartbeats 2000000 in
theorem roles_45 (ln : Int) (s : ByteArray) (k n : Int) (t : ByteArray) (vv : Value) (sa : Option Addr) (m sc : Nat) (w : World) (hm : m ≤ 4096) :
    Calls Tryz.prog 150 #[.agg #[.int .i64 45, .int .i64 ln, .string s, .int .i64 k, .int .i64 n, .string t, vv, .slice sa m sc]] w (RolesOut w 45 m) := by
  obtain ⟨wa, hwa⟩ : ∃ wa, wa = w.alloc (.cells #[.int .i64 45, .int .i64 ln, .string s, .int .i64 k, .int .i64 n, .string t, vv, .slice sa m sc] 31) := ⟨_, rfl⟩
  have hb : Below w.heap.size w wa := by rw [hwa]; exact (Below.refl _ _).alloc (Nat.le_refl _) _
  have hN : NdB wa w.heap.size (.int .i64 45) (.int .i64 ln) (.string s) (.int .i64 k) (.int .i64 n) (.string t) vv (.slice sa m sc) := by rw [hwa]; exact NdB.new _ _ _ _ _ _ _ _ _
  have v0 := hN.c0; have v7 := hN.c7
  rw [hwa] at v0 v7
  have HB := Lib.hid hb
  have HWA := Lib.hid hwa
  clear hb hN hwa
  go_enter Tryz.func150, Tryz.ntmps150
  go_wp2_with fail
  rw [← HWA.out]
  go_ret2
  exact ⟨_, ret_tup (c := .nilIface) (by rw [show (0 : Int) = ((0 : Nat) : Int) from rfl, eq_nat]; rfl), World.ownsRow_nil _ _ _ _, HB.out⟩

set_option maxRecDepth 100000 in
set_option maxHeartbeats 2000000 in
theorem roles_46 (ln : Int) (s : ByteArray) (k n : Int) (t : ByteArray) (vv : Value) (sa : Option Addr) (m sc : Nat) (w : World) (hm : m ≤ 4096) :
    Calls Tryz.prog 150 #[.agg #[.int .i64 46, .int .i64 ln, .string s, .int .i64 k, .int .i64 n, .string t, vv, .slice sa m sc]] w (RolesOut w 46 m) := by
  obtain ⟨wa, hwa⟩ : ∃ wa, wa = w.alloc (.cells #[.int .i64 46, .int .i64 ln, .string s, .int .i64 k, .int .i64 n, .string t, vv, .slice sa m sc] 31) := ⟨_, rfl⟩
  have hb : Below w.heap.size w wa := by rw [hwa]; exact (Below.refl _ _).alloc (Nat.le_refl _) _
  have hN : NdB wa w.heap.size (.int .i64 46) (.int .i64 ln) (.string s) (.int .i64 k) (.int .i64 n) (.string t) vv (.slice sa m sc) := by rw [hwa]; exact NdB.new _ _ _ _ _ _ _ _ _
  have v0 := hN.c0; have v7 := hN.c7
  rw [hwa] at v0 v7
  have HB := Lib.hid hb
  have HWA := Lib.hid hwa
  clear hb hN hwa
  go_enter Tryz.func150, Tryz.ntmps150
  go_wp2_with fail
  rw [← HWA.out]
  go_ret2
  exact ⟨_, ret_tup (c := .nilIface) (by rw [show (0 : Int) = ((0 : Nat) : Int) from rfl, eq_nat]; rfl), World.ownsRow_nil _ _ _ _, HB.out⟩

set_option maxRecDepth 100000 in
set_option maxHeartbeats 2000000 in
theorem roles_3 (ln : Int) (s : ByteArray) (k n : Int) (t : ByteArray) (vv : Value) (sa : Option Addr) (m sc : Nat) (w : World) (hm : m ≤ 4096) :
    Calls Tryz.prog 150 #[.agg #[.int .i64 3, .int .i64 ln, .string s, .int .i64 k, .int .i64 n, .string t, vv, .slice sa m sc]] w (RolesOut w 3 m) := by
  obtain ⟨wa, hwa⟩ : ∃ wa, wa = w.alloc (.cells #[.int .i64 3, .int .i64 ln, .string s, .int .i64 k, .int .i64 n, .string t, vv, .slice sa m sc] 31) := ⟨_, rfl⟩
  have hb : Below w.heap.size w wa := by rw [hwa]; exact (Below.refl _ _).alloc (Nat.le_refl _) _
  have hN : NdB wa w.heap.size (.int .i64 3) (.int .i64 ln) (.string s) (.int .i64 k) (.int .i64 n) (.string t) vv (.slice sa m sc) := by rw [hwa]; exact NdB.new _ _ _ _ _ _ _ _ _
  have v0 := hN.c0; have v7 := hN.c7
  rw [hwa] at v0 v7
  have HB := Lib.hid hb
  have HWA := Lib.hid hwa
  clear hb hN hwa
  go_enter Tryz.func150, Tryz.ntmps150
  go_wp2_with fail
  rw [← HWA.out]
  refine (roll_c 0 1 wa (by decide) (by omega)).mono ?_
  rintro e w2 ⟨v, rfl, ho, hb2⟩
  have HO := Lib.hid ho
  have HB2 := Lib.hid (HB.out.trans (below_le' hb2 HB.out.size))
  clear ho hb2
  go_wp2_with fail
  go_ret2
  exact ⟨v, ret_tup (c := .nilIface) (by rw [show (1 : Int) = ((1 : Nat) : Int) from rfl, eq_nat]; rfl), by
    have h := own_lower HO.out HB.out.size
    have e : (rolesP 3 m).1 = List.replicate 1 0 := rfl
    rw [e, List.length_replicate]; exact h, HB2.out⟩

set_option maxRecDepth 100000 in
set_option maxHeartbeats 2000000 in
theorem roles_4 (ln : Int) (s : ByteArray) (k n : Int) (t : ByteArray) (vv : Value) (sa : Option Addr) (m sc : Nat) (w : World) (hm : m ≤ 4096) :
    Calls Tryz.prog 150 #[.agg #[.int .i64 4, .int .i64 ln, .string s, .int .i64 k, .int .i64 n, .string t, vv, .slice sa m sc]] w (RolesOut w 4 m) := by
  obtain ⟨wa, hwa⟩ : ∃ wa, wa = w.alloc (.cells #[.int .i64 4, .int .i64 ln, .string s, .int .i64 k, .int .i64 n, .string t, vv, .slice sa m sc] 31) := ⟨_, rfl⟩
  have hb : Below w.heap.size w wa := by rw [hwa]; exact (Below.refl _ _).alloc (Nat.le_refl _) _
  have hN : NdB wa w.heap.size (.int .i64 4) (.int .i64 ln) (.string s) (.int .i64 k) (.int .i64 n) (.string t) vv (.slice sa m sc) := by rw [hwa]; exact NdB.new _ _ _ _ _ _ _ _ _
  have v0 := hN.c0; have v7 := hN.c7
  rw [hwa] at v0 v7
  have HB := Lib.hid hb
  have HWA := Lib.hid hwa
  clear hb hN hwa
  go_enter Tryz.func150, Tryz.ntmps150
  go_wp2_with fail
  rw [← HWA.out]
  refine (roll_c 0 1 wa (by decide) (by omega)).mono ?_
  rintro e w2 ⟨v, rfl, ho, hb2⟩
  have HO := Lib.hid ho
  have HB2 := Lib.hid (HB.out.trans (below_le' hb2 HB.out.size))
  clear ho hb2
  go_wp2_with fail
  go_ret2
  exact ⟨v, ret_tup (c := .nilIface) (by rw [show (1 : Int) = ((1 : Nat) : Int) from rfl, eq_nat]; rfl), by
    have h := own_lower HO.out HB.out.size
    have e : (rolesP 4 m).1 = List.replicate 1 0 := rfl
    rw [e, List.length_replicate]; exact h, HB2.out⟩

set_option maxRecDepth 100000 in
set_option maxHeartbeats 2000000 in
theorem roles_26 (ln : Int) (s : ByteArray) (k n : Int) (t : ByteArray) (vv : Value) (sa : Option Addr) (m sc : Nat) (w : World) (hm : m ≤ 4096) :
    Calls Tryz.prog 150 #[.agg #[.int .i64 26, .int .i64 ln, .string s, .int .i64 k, .int .i64 n, .string t, vv, .slice sa m sc]] w (RolesOut w 26 m) := by
  obtain ⟨wa, hwa⟩ : ∃ wa, wa = w.alloc (.cells #[.int .i64 26, .int .i64 ln, .string s, .int .i64 k, .int .i64 n, .string t, vv, .slice sa m sc] 31) := ⟨_, rfl⟩
  have hb : Below w.heap.size w wa := by rw [hwa]; exact (Below.refl _ _).alloc (Nat.le_refl _) _
  have hN : NdB wa w.heap.size (.int .i64 26) (.int .i64 ln) (.string s) (.int .i64 k) (.int .i64 n) (.string t) vv (.slice sa m sc) := by rw [hwa]; exact NdB.new _ _ _ _ _ _ _ _ _
  have v0 := hN.c0; have v7 := hN.c7
  rw [hwa] at v0 v7
  have HB := Lib.hid hb
  have HWA := Lib.hid hwa
  clear hb hN hwa
  go_enter Tryz.func150, Tryz.ntmps150
  go_wp2_with fail
  rw [← HWA.out]
  refine (roll_c 0 1 wa (by decide) (by omega)).mono ?_
  rintro e w2 ⟨v, rfl, ho, hb2⟩
  have HO := Lib.hid ho
  have HB2 := Lib.hid (HB.out.trans (below_le' hb2 HB.out.size))
  clear ho hb2
  go_wp2_with fail
  go_ret2
  exact ⟨v, ret_tup (c := .nilIface) (by rw [show (1 : Int) = ((1 : Nat) : Int) from rfl, eq_nat]; rfl), by
    have h := own_lower HO.out HB.out.size
    have e : (rolesP 26 m).1 = List.replicate 1 0 := rfl
    rw [e, List.length_replicate]; exact h, HB2.out⟩

set_option maxRecDepth 100000 in
set_option maxHeartbeats 2000000 in
theorem roles_40 (ln : Int) (s : ByteArray) (k n : Int) (t : ByteArray) (vv : Value) (sa : Option Addr) (m sc : Nat) (w : World) (hm : m ≤ 4096) :
    Calls Tryz.prog 150 #[.agg #[.int .i64 40, .int .i64 ln, .string s, .int .i64 k, .int .i64 n, .string t, vv, .slice sa m sc]] w (RolesOut w 40 m) := by
  obtain ⟨wa, hwa⟩ : ∃ wa, wa = w.alloc (.cells #[.int .i64 40, .int .i64 ln, .string s, .int .i64 k, .int .i64 n, .string t, vv, .slice sa m sc] 31) := ⟨_, rfl⟩
  have hb : Below w.heap.size w wa := by rw [hwa]; exact (Below.refl _ _).alloc (Nat.le_refl _) _
  have hN : NdB wa w.heap.size (.int .i64 40) (.int .i64 ln) (.string s) (.int .i64 k) (.int .i64 n) (.string t) vv (.slice sa m sc) := by rw [hwa]; exact NdB.new _ _ _ _ _ _ _ _ _
  have v0 := hN.c0; have v7 := hN.c7
  rw [hwa] at v0 v7
  have HB := Lib.hid hb
  have HWA := Lib.hid hwa
  clear hb hN hwa
  go_enter Tryz.func150, Tryz.ntmps150
  go_wp2_with fail
  rw [← HWA.out]
  refine (roll_c 0 1 wa (by decide) (by omega)).mono ?_
  rintro e w2 ⟨v, rfl, ho, hb2⟩
  have HO := Lib.hid ho
  have HB2 := Lib.hid (HB.out.trans (below_le' hb2 HB.out.size))
  clear ho hb2
  go_wp2_with fail
  go_ret2
  exact ⟨v, ret_tup (c := .nilIface) (by rw [show (1 : Int) = ((1 : Nat) : Int) from rfl, eq_nat]; rfl), by
    have h := own_lower HO.out HB.out.size
    have e : (rolesP 40 m).1 = List.replicate 1 0 := rfl
    rw [e, List.length_replicate]; exact h, HB2.out⟩

set_option maxRecDepth 100000 in
set_option maxHeartbeats 2000000 in
theorem roles_19 (ln : Int) (s : ByteArray) (k n : Int) (t : ByteArray) (vv : Value) (sa : Option Addr) (m sc : Nat) (w : World) (hm : m ≤ 4096) :
    Calls Tryz.prog 150 #[.agg #[.int .i64 19, .int .i64 ln, .string s, .int .i64 k, .int .i64 n, .string t, vv, .slice sa m sc]] w (RolesOut w 19 m) := by
  obtain ⟨wa, hwa⟩ : ∃ wa, wa = w.alloc (.cells #[.int .i64 19, .int .i64 ln, .string s, .int .i64 k, .int .i64 n, .string t, vv, .slice sa m sc] 31) := ⟨_, rfl⟩
  have hb : Below w.heap.size w wa := by rw [hwa]; exact (Below.refl _ _).alloc (Nat.le_refl _) _
  have hN : NdB wa w.heap.size (.int .i64 19) (.int .i64 ln) (.string s) (.int .i64 k) (.int .i64 n) (.string t) vv (.slice sa m sc) := by rw [hwa]; exact NdB.new _ _ _ _ _ _ _ _ _
  have v0 := hN.c0; have v7 := hN.c7
  rw [hwa] at v0 v7
  have HB := Lib.hid hb
  have HWA := Lib.hid hwa
  clear hb hN hwa
  go_enter Tryz.func150, Tryz.ntmps150
  go_wp2_with fail
  rw [← HWA.out]
  refine (roll_c 0 3 wa (by decide) (by omega)).mono ?_
  rintro e w2 ⟨v, rfl, ho, hb2⟩
  have HO := Lib.hid ho
  have HB2 := Lib.hid (HB.out.trans (below_le' hb2 HB.out.size))
  clear ho hb2
  go_wp2_with fail
  go_ret2
  exact ⟨v, ret_tup (c := .nilIface) (by rw [show (3 : Int) = ((3 : Nat) : Int) from rfl, eq_nat]; rfl), by
    have h := own_lower HO.out HB.out.size
    have e : (rolesP 19 m).1 = List.replicate 3 0 := rfl
    rw [e, List.length_replicate]; exact h, HB2.out⟩

set_option maxRecDepth 100000 in
set_option maxHeartbeats 2000000 in
theorem roles_21 (ln : Int) (s : ByteArray) (k n : Int) (t : ByteArray) (vv : Value) (sa : Option Addr) (m sc : Nat) (w : World) (hm : m ≤ 4096) :
    Calls Tryz.prog 150 #[.agg #[.int .i64 21, .int .i64 ln, .string s, .int .i64 k, .int .i64 n, .string t, vv, .slice sa m sc]] w (RolesOut w 21 m) := by
  obtain ⟨wa, hwa⟩ : ∃ wa, wa = w.alloc (.cells #[.int .i64 21, .int .i64 ln, .string s, .int .i64 k, .int .i64 n, .string t, vv, .slice sa m sc] 31) := ⟨_, rfl⟩
  have hb : Below w.heap.size w wa := by rw [hwa]; exact (Below.refl _ _).alloc (Nat.le_refl _) _
  have hN : NdB wa w.heap.size (.int .i64 21) (.int .i64 ln) (.string s) (.int .i64 k) (.int .i64 n) (.string t) vv (.slice sa m sc) := by rw [hwa]; exact NdB.new _ _ _ _ _ _ _ _ _
  have v0 := hN.c0; have v7 := hN.c7
  rw [hwa] at v0 v7
  have HB := Lib.hid hb
  have HWA := Lib.hid hwa
  clear hb hN hwa
  go_enter Tryz.func150, Tryz.ntmps150
  go_wp2_with fail
  rw [← HWA.out]
  refine (roll_c 0 3 wa (by decide) (by omega)).mono ?_
  rintro e w2 ⟨v, rfl, ho, hb2⟩
  have HO := Lib.hid ho
  have HB2 := Lib.hid (HB.out.trans (below_le' hb2 HB.out.size))
  clear ho hb2
  go_wp2_with fail
  go_ret2
  exact ⟨v, ret_tup (c := .nilIface) (by rw [show (3 : Int) = ((3 : Nat) : Int) from rfl, eq_nat]; rfl), by
    have h := own_lower HO.out HB.out.size
    have e : (rolesP 21 m).1 = List.replicate 3 0 := rfl
    rw [e, List.length_replicate]; exact h, HB2.out⟩

set_option maxRecDepth 100000 in
set_option maxHeartbeats 2000000 in
theorem roles_24 (ln : Int) (s : ByteArray) (k n : Int) (t : ByteArray) (vv : Value) (sa : Option Addr) (m sc : Nat) (w : World) (hm : m ≤ 4096) :
    Calls Tryz.prog 150 #[.agg #[.int .i64 24, .int .i64 ln, .string s, .int .i64 k, .int .i64 n, .string t, vv, .slice sa m sc]] w (RolesOut w 24 m) := by
  obtain ⟨wa, hwa⟩ : ∃ wa, wa = w.alloc (.cells #[.int .i64 24, .int .i64 ln, .string s, .int .i64 k, .int .i64 n, .string t, vv, .slice sa m sc] 31) := ⟨_, rfl⟩
  have hb : Below w.heap.size w wa := by rw [hwa]; exact (Below.refl _ _).alloc (Nat.le_refl _) _
  have hN : NdB wa w.heap.size (.int .i64 24) (.int .i64 ln) (.string s) (.int .i64 k) (.int .i64 n) (.string t) vv (.slice sa m sc) := by rw [hwa]; exact NdB.new _ _ _ _ _ _ _ _ _
  have v0 := hN.c0; have v7 := hN.c7
  rw [hwa] at v0 v7
  have HB := Lib.hid hb
  have HWA := Lib.hid hwa
  clear hb hN hwa
  go_enter Tryz.func150, Tryz.ntmps150
  go_wp2_with fail
  rw [← HWA.out]
  refine (roll_c 1 m wa (by decide) (by omega)).mono ?_
  rintro e w2 ⟨v, rfl, ho, hb2⟩
  have HO := Lib.hid ho
  have HB2 := Lib.hid (HB.out.trans (below_le' hb2 HB.out.size))
  clear ho hb2
  go_wp2_with fail
  go_ret2
  exact ⟨v, ret_tup (c := .nilIface) (by rfl), by
    have h := own_lower HO.out HB.out.size
    have e : (rolesP 24 m).1 = List.replicate m 1 := rfl
    rw [e, List.length_replicate]; exact h, HB2.out⟩

set_option maxRecDepth 100000 in
set_option maxHeartbeats 2000000 in
theorem roles_25 (ln : Int) (s : ByteArray) (k n : Int) (t : ByteArray) (vv : Value) (sa : Option Addr) (m sc : Nat) (w : World) (hm : m ≤ 4096) :
    Calls Tryz.prog 150 #[.agg #[.int .i64 25, .int .i64 ln, .string s, .int .i64 k, .int .i64 n, .string t, vv, .slice sa m sc]] w (RolesOut w 25 m) := by
  obtain ⟨wa, hwa⟩ : ∃ wa, wa = w.alloc (.cells #[.int .i64 25, .int .i64 ln, .string s, .int .i64 k, .int .i64 n, .string t, vv, .slice sa m sc] 31) := ⟨_, rfl⟩
  have hb : Below w.heap.size w wa := by rw [hwa]; exact (Below.refl _ _).alloc (Nat.le_refl _) _
  have hN : NdB wa w.heap.size (.int .i64 25) (.int .i64 ln) (.string s) (.int .i64 k) (.int .i64 n) (.string t) vv (.slice sa m sc) := by rw [hwa]; exact NdB.new _ _ _ _ _ _ _ _ _
  have v0 := hN.c0; have v7 := hN.c7
  rw [hwa] at v0 v7
  have HB := Lib.hid hb
  have HWA := Lib.hid hwa
  clear hb hN hwa
  go_enter Tryz.func150, Tryz.ntmps150
  go_wp2_with fail
  rw [← HWA.out]
  refine (roll_c 1 m wa (by decide) (by omega)).mono ?_
  rintro e w2 ⟨v, rfl, ho, hb2⟩
  have HO := Lib.hid ho
  have HB2 := Lib.hid (HB.out.trans (below_le' hb2 HB.out.size))
  clear ho hb2
  go_wp2_with fail
  go_ret2
  exact ⟨v, ret_tup (c := .nilIface) (by rfl), by
    have h := own_lower HO.out HB.out.size
    have e : (rolesP 25 m).1 = List.replicate m 1 := rfl
    rw [e, List.length_replicate]; exact h, HB2.out⟩

set_option maxRecDepth 100000 in
set_option maxHeartbeats 2000000 in
theorem roles_47 (ln : Int) (s : ByteArray) (k n : Int) (t : ByteArray) (vv : Value) (sa : Option Addr) (m sc : Nat) (w : World) (hm : m ≤ 4096) :
    Calls Tryz.prog 150 #[.agg #[.int .i64 47, .int .i64 ln, .string s, .int .i64 k, .int .i64 n, .string t, vv, .slice sa m sc]] w (RolesOut w 47 m) := by
  obtain ⟨wa, hwa⟩ : ∃ wa, wa = w.alloc (.cells #[.int .i64 47, .int .i64 ln, .string s, .int .i64 k, .int .i64 n, .string t, vv, .slice sa m sc] 31) := ⟨_, rfl⟩
  have hb : Below w.heap.size w wa := by rw [hwa]; exact (Below.refl _ _).alloc (Nat.le_refl _) _
  have hN : NdB wa w.heap.size (.int .i64 47) (.int .i64 ln) (.string s) (.int .i64 k) (.int .i64 n) (.string t) vv (.slice sa m sc) := by rw [hwa]; exact NdB.new _ _ _ _ _ _ _ _ _
  have v0 := hN.c0; have v7 := hN.c7
  rw [hwa] at v0 v7
  have HB := Lib.hid hb
  have HWA := Lib.hid hwa
  clear hb hN hwa
  go_enter Tryz.func150, Tryz.ntmps150
  go_wp2_with fail
  rw [← HWA.out]
  refine (roll_c 0 m wa (by decide) (by omega)).mono ?_
  rintro e w2 ⟨v, rfl, ho, hb2⟩
  have HO := Lib.hid ho
  have HB2 := Lib.hid (HB.out.trans (below_le' hb2 HB.out.size))
  clear ho hb2
  go_wp2_with fail
  go_ret2
  exact ⟨v, ret_tup (c := .nilIface) (by rw [show (1 : Int) = ((1 : Nat) : Int) from rfl, le_nat]; rfl), by
    have h := own_lower HO.out HB.out.size
    have e : (rolesP 47 m).1 = List.replicate m 0 := rfl
    rw [e, List.length_replicate]; exact h, HB2.out⟩

set_option maxRecDepth 100000 in
set_option maxHeartbeats 2000000 in
theorem roles_52 (ln : Int) (s : ByteArray) (k n : Int) (t : ByteArray) (vv : Value) (sa : Option Addr) (m sc : Nat) (w : World) (hm : m ≤ 4096) :
    Calls Tryz.prog 150 #[.agg #[.int .i64 52, .int .i64 ln, .string s, .int .i64 k, .int .i64 n, .string t, vv, .slice sa m sc]] w (RolesOut w 52 m) := by
  obtain ⟨wa, hwa⟩ : ∃ wa, wa = w.alloc (.cells #[.int .i64 52, .int .i64 ln, .string s, .int .i64 k, .int .i64 n, .string t, vv, .slice sa m sc] 31) := ⟨_, rfl⟩
  have hb : Below w.heap.size w wa := by rw [hwa]; exact (Below.refl _ _).alloc (Nat.le_refl _) _
  have hN : NdB wa w.heap.size (.int .i64 52) (.int .i64 ln) (.string s) (.int .i64 k) (.int .i64 n) (.string t) vv (.slice sa m sc) := by rw [hwa]; exact NdB.new _ _ _ _ _ _ _ _ _
  have v0 := hN.c0; have v7 := hN.c7
  rw [hwa] at v0 v7
  have HB := Lib.hid hb
  have HWA := Lib.hid hwa
  clear hb hN hwa
  go_enter Tryz.func150, Tryz.ntmps150
  go_wp2_with fail
  rw [← HWA.out]
  refine (roll_c 7 m wa (by decide) (by omega)).mono ?_
  rintro e w2 ⟨v, rfl, ho, hb2⟩
  have HO := Lib.hid ho
  have HB2 := Lib.hid (HB.out.trans (below_le' hb2 HB.out.size))
  clear ho hb2
  go_wp2_with fail
  go_ret2
  exact ⟨v, ret_tup (c := .nilIface) (by rfl), by
    have h := own_lower HO.out HB.out.size
    have e : (rolesP 52 m).1 = List.replicate m 7 := rfl
    rw [e, List.length_replicate]; exact h, HB2.out⟩
end Go.Proofs.YtggngahmafbihaaGreatDoor
namespace Go.Proofs.YtggngahmafbihaaGreatDoor
open Go.RowKit Go.Lib
set_option linter.unusedVariables false
theorem beq_no {a b : Int} (h : a ≠ b) : (a == b) = false := beq_eq_false_iff_ne.2 h
theorem bne_yes {a b : Int} (h : a ≠ b) : (a != b) = true := bne_iff_ne.2 h

set_option maxHeartbeats 1000000 in
theorem named_c (op : Int) (w : World) : Calls Tryz.prog 176 #[.int .i64 op] w fun e w' => e = .returned (.tuple #[.bool (namedP op).1, .bool (namedP op).2]) ∧ w = w' := by
  by_cases h : op = 2 ∨ op = 24 ∨ op = 42 ∨ op = 43 ∨ op = 50
  · rcases h with rfl | rfl | rfl | rfl | rfl
    all_goals
      go_enter Tryz.func176, Tryz.ntmps176
      go_wp2_with fail
      go_ret2
      exact ⟨rfl, rfl⟩
  · have n1 := beq_no (show op ≠ 2 by omega)
    have n2 := beq_no (show op ≠ 24 by omega)
    have n3 := beq_no (show op ≠ 42 by omega)
    have n4 := beq_no (show op ≠ 43 by omega)
    have n5 := beq_no (show op ≠ 50 by omega)
    have HN := Lib.hid (show namedP op = (false, false) by unfold namedP; rw [if_neg (by omega), if_neg (by omega)])
    clear h
    go_enter Tryz.func176, Tryz.ntmps176
    go_wp2_with fail
    go_ret2
    exact ⟨by rw [HN.out]; rfl, rfl⟩

set_option maxHeartbeats 1000000 in
theorem loops_c (op : Int) (w : World) : Calls Tryz.prog 151 #[.int .i64 op] w fun e w' => e = .returned (.bool (loopsP op)) ∧ w = w' := by
  by_cases h : op = 42 ∨ op = 43 ∨ op = 44
  · rcases h with rfl | rfl | rfl
    all_goals
      go_enter Tryz.func151, Tryz.ntmps151
      go_wp2_with fail
      go_ret
      exact ⟨rfl, rfl⟩
  · have n1 := beq_no (show op ≠ 42 by omega)
    have n2 := beq_no (show op ≠ 43 by omega)
    have n3 := beq_no (show op ≠ 44 by omega)
    have HN := Lib.hid (show loopsP op = false by unfold loopsP; rw [n1, n2, n3]; rfl)
    clear h
    go_enter Tryz.func151, Tryz.ntmps151
    go_wp2_with fail
    go_ret
    exact ⟨ret_val (by rw [HN.out]; rfl), rfl⟩
end Go.Proofs.YtggngahmafbihaaGreatDoor
namespace Go.Proofs.YtggngahmafbihaaGreatDoor
open Go.RowKit Go.Lib
set_option linter.unusedVariables false

set_option maxRecDepth 100000 in
set_option maxHeartbeats 2000000 in
theorem roles_5 (ln : Int) (s : ByteArray) (k n : Int) (t : ByteArray) (vv : Value) (sa : Option Addr) (m sc : Nat) (w : World) (hm : m ≤ 4096) :
    Calls Tryz.prog 150 #[.agg #[.int .i64 5, .int .i64 ln, .string s, .int .i64 k, .int .i64 n, .string t, vv, .slice sa m sc]] w (RolesOut w 5 m) := by
  obtain ⟨wa, hwa⟩ : ∃ wa, wa = w.alloc (.cells #[.int .i64 5, .int .i64 ln, .string s, .int .i64 k, .int .i64 n, .string t, vv, .slice sa m sc] 31) := ⟨_, rfl⟩
  have hb : Below w.heap.size w wa := by rw [hwa]; exact (Below.refl _ _).alloc (Nat.le_refl _) _
  have hN : NdB wa w.heap.size (.int .i64 5) (.int .i64 ln) (.string s) (.int .i64 k) (.int .i64 n) (.string t) vv (.slice sa m sc) := by rw [hwa]; exact NdB.new _ _ _ _ _ _ _ _ _
  have v0 := hN.c0; have v7 := hN.c7
  rw [hwa] at v0 v7
  have HB := Lib.hid hb
  have HWA := Lib.hid hwa
  clear hb hN hwa
  go_enter Tryz.func150, Tryz.ntmps150
  go_wp2_with fail
  rw [← HWA.out]
  refine (roll_c 0 2 wa (by decide) (by omega)).mono ?_
  rintro e w2 ⟨v, rfl, ho, hb2⟩
  have HO := Lib.hid ho
  have HB2 := Lib.hid (HB.out.trans (below_le' hb2 HB.out.size))
  clear ho hb2
  go_wp2_with fail
  go_ret2
  exact ⟨v, ret_tup (c := .nilIface) (by rw [show (2 : Int) = ((2 : Nat) : Int) from rfl, eq_nat]; rfl), by
    have h := own_lower HO.out HB.out.size
    have e : (rolesP 5 m).1 = List.replicate 2 0 := rfl
    rw [e, List.length_replicate]; exact h, HB2.out⟩

set_option maxRecDepth 100000 in
set_option maxHeartbeats 2000000 in
theorem roles_6 (ln : Int) (s : ByteArray) (k n : Int) (t : ByteArray) (vv : Value) (sa : Option Addr) (m sc : Nat) (w : World) (hm : m ≤ 4096) :
    Calls Tryz.prog 150 #[.agg #[.int .i64 6, .int .i64 ln, .string s, .int .i64 k, .int .i64 n, .string t, vv, .slice sa m sc]] w (RolesOut w 6 m) := by
  obtain ⟨wa, hwa⟩ : ∃ wa, wa = w.alloc (.cells #[.int .i64 6, .int .i64 ln, .string s, .int .i64 k, .int .i64 n, .string t, vv, .slice sa m sc] 31) := ⟨_, rfl⟩
  have hb : Below w.heap.size w wa := by rw [hwa]; exact (Below.refl _ _).alloc (Nat.le_refl _) _
  have hN : NdB wa w.heap.size (.int .i64 6) (.int .i64 ln) (.string s) (.int .i64 k) (.int .i64 n) (.string t) vv (.slice sa m sc) := by rw [hwa]; exact NdB.new _ _ _ _ _ _ _ _ _
  have v0 := hN.c0; have v7 := hN.c7
  rw [hwa] at v0 v7
  have HB := Lib.hid hb
  have HWA := Lib.hid hwa
  clear hb hN hwa
  go_enter Tryz.func150, Tryz.ntmps150
  go_wp2_with fail
  rw [← HWA.out]
  refine (roll_c 0 2 wa (by decide) (by omega)).mono ?_
  rintro e w2 ⟨v, rfl, ho, hb2⟩
  have HO := Lib.hid ho
  have HB2 := Lib.hid (HB.out.trans (below_le' hb2 HB.out.size))
  clear ho hb2
  go_wp2_with fail
  go_ret2
  exact ⟨v, ret_tup (c := .nilIface) (by rw [show (2 : Int) = ((2 : Nat) : Int) from rfl, eq_nat]; rfl), by
    have h := own_lower HO.out HB.out.size
    have e : (rolesP 6 m).1 = List.replicate 2 0 := rfl
    rw [e, List.length_replicate]; exact h, HB2.out⟩

set_option maxRecDepth 100000 in
set_option maxHeartbeats 2000000 in
theorem roles_7 (ln : Int) (s : ByteArray) (k n : Int) (t : ByteArray) (vv : Value) (sa : Option Addr) (m sc : Nat) (w : World) (hm : m ≤ 4096) :
    Calls Tryz.prog 150 #[.agg #[.int .i64 7, .int .i64 ln, .string s, .int .i64 k, .int .i64 n, .string t, vv, .slice sa m sc]] w (RolesOut w 7 m) := by
  obtain ⟨wa, hwa⟩ : ∃ wa, wa = w.alloc (.cells #[.int .i64 7, .int .i64 ln, .string s, .int .i64 k, .int .i64 n, .string t, vv, .slice sa m sc] 31) := ⟨_, rfl⟩
  have hb : Below w.heap.size w wa := by rw [hwa]; exact (Below.refl _ _).alloc (Nat.le_refl _) _
  have hN : NdB wa w.heap.size (.int .i64 7) (.int .i64 ln) (.string s) (.int .i64 k) (.int .i64 n) (.string t) vv (.slice sa m sc) := by rw [hwa]; exact NdB.new _ _ _ _ _ _ _ _ _
  have v0 := hN.c0; have v7 := hN.c7
  rw [hwa] at v0 v7
  have HB := Lib.hid hb
  have HWA := Lib.hid hwa
  clear hb hN hwa
  go_enter Tryz.func150, Tryz.ntmps150
  go_wp2_with fail
  rw [← HWA.out]
  refine (roll_c 0 2 wa (by decide) (by omega)).mono ?_
  rintro e w2 ⟨v, rfl, ho, hb2⟩
  have HO := Lib.hid ho
  have HB2 := Lib.hid (HB.out.trans (below_le' hb2 HB.out.size))
  clear ho hb2
  go_wp2_with fail
  go_ret2
  exact ⟨v, ret_tup (c := .nilIface) (by rw [show (2 : Int) = ((2 : Nat) : Int) from rfl, eq_nat]; rfl), by
    have h := own_lower HO.out HB.out.size
    have e : (rolesP 7 m).1 = List.replicate 2 0 := rfl
    rw [e, List.length_replicate]; exact h, HB2.out⟩

set_option maxRecDepth 100000 in
set_option maxHeartbeats 2000000 in
theorem roles_8 (ln : Int) (s : ByteArray) (k n : Int) (t : ByteArray) (vv : Value) (sa : Option Addr) (m sc : Nat) (w : World) (hm : m ≤ 4096) :
    Calls Tryz.prog 150 #[.agg #[.int .i64 8, .int .i64 ln, .string s, .int .i64 k, .int .i64 n, .string t, vv, .slice sa m sc]] w (RolesOut w 8 m) := by
  obtain ⟨wa, hwa⟩ : ∃ wa, wa = w.alloc (.cells #[.int .i64 8, .int .i64 ln, .string s, .int .i64 k, .int .i64 n, .string t, vv, .slice sa m sc] 31) := ⟨_, rfl⟩
  have hb : Below w.heap.size w wa := by rw [hwa]; exact (Below.refl _ _).alloc (Nat.le_refl _) _
  have hN : NdB wa w.heap.size (.int .i64 8) (.int .i64 ln) (.string s) (.int .i64 k) (.int .i64 n) (.string t) vv (.slice sa m sc) := by rw [hwa]; exact NdB.new _ _ _ _ _ _ _ _ _
  have v0 := hN.c0; have v7 := hN.c7
  rw [hwa] at v0 v7
  have HB := Lib.hid hb
  have HWA := Lib.hid hwa
  clear hb hN hwa
  go_enter Tryz.func150, Tryz.ntmps150
  go_wp2_with fail
  rw [← HWA.out]
  refine (roll_c 0 2 wa (by decide) (by omega)).mono ?_
  rintro e w2 ⟨v, rfl, ho, hb2⟩
  have HO := Lib.hid ho
  have HB2 := Lib.hid (HB.out.trans (below_le' hb2 HB.out.size))
  clear ho hb2
  go_wp2_with fail
  go_ret2
  exact ⟨v, ret_tup (c := .nilIface) (by rw [show (2 : Int) = ((2 : Nat) : Int) from rfl, eq_nat]; rfl), by
    have h := own_lower HO.out HB.out.size
    have e : (rolesP 8 m).1 = List.replicate 2 0 := rfl
    rw [e, List.length_replicate]; exact h, HB2.out⟩

set_option maxRecDepth 100000 in
set_option maxHeartbeats 2000000 in
theorem roles_9 (ln : Int) (s : ByteArray) (k n : Int) (t : ByteArray) (vv : Value) (sa : Option Addr) (m sc : Nat) (w : World) (hm : m ≤ 4096) :
    Calls Tryz.prog 150 #[.agg #[.int .i64 9, .int .i64 ln, .string s, .int .i64 k, .int .i64 n, .string t, vv, .slice sa m sc]] w (RolesOut w 9 m) := by
  obtain ⟨wa, hwa⟩ : ∃ wa, wa = w.alloc (.cells #[.int .i64 9, .int .i64 ln, .string s, .int .i64 k, .int .i64 n, .string t, vv, .slice sa m sc] 31) := ⟨_, rfl⟩
  have hb : Below w.heap.size w wa := by rw [hwa]; exact (Below.refl _ _).alloc (Nat.le_refl _) _
  have hN : NdB wa w.heap.size (.int .i64 9) (.int .i64 ln) (.string s) (.int .i64 k) (.int .i64 n) (.string t) vv (.slice sa m sc) := by rw [hwa]; exact NdB.new _ _ _ _ _ _ _ _ _
  have v0 := hN.c0; have v7 := hN.c7
  rw [hwa] at v0 v7
  have HB := Lib.hid hb
  have HWA := Lib.hid hwa
  clear hb hN hwa
  go_enter Tryz.func150, Tryz.ntmps150
  go_wp2_with fail
  rw [← HWA.out]
  refine (roll_c 0 2 wa (by decide) (by omega)).mono ?_
  rintro e w2 ⟨v, rfl, ho, hb2⟩
  have HO := Lib.hid ho
  have HB2 := Lib.hid (HB.out.trans (below_le' hb2 HB.out.size))
  clear ho hb2
  go_wp2_with fail
  go_ret2
  exact ⟨v, ret_tup (c := .nilIface) (by rw [show (2 : Int) = ((2 : Nat) : Int) from rfl, eq_nat]; rfl), by
    have h := own_lower HO.out HB.out.size
    have e : (rolesP 9 m).1 = List.replicate 2 0 := rfl
    rw [e, List.length_replicate]; exact h, HB2.out⟩

set_option maxRecDepth 100000 in
set_option maxHeartbeats 2000000 in
theorem roles_10 (ln : Int) (s : ByteArray) (k n : Int) (t : ByteArray) (vv : Value) (sa : Option Addr) (m sc : Nat) (w : World) (hm : m ≤ 4096) :
    Calls Tryz.prog 150 #[.agg #[.int .i64 10, .int .i64 ln, .string s, .int .i64 k, .int .i64 n, .string t, vv, .slice sa m sc]] w (RolesOut w 10 m) := by
  obtain ⟨wa, hwa⟩ : ∃ wa, wa = w.alloc (.cells #[.int .i64 10, .int .i64 ln, .string s, .int .i64 k, .int .i64 n, .string t, vv, .slice sa m sc] 31) := ⟨_, rfl⟩
  have hb : Below w.heap.size w wa := by rw [hwa]; exact (Below.refl _ _).alloc (Nat.le_refl _) _
  have hN : NdB wa w.heap.size (.int .i64 10) (.int .i64 ln) (.string s) (.int .i64 k) (.int .i64 n) (.string t) vv (.slice sa m sc) := by rw [hwa]; exact NdB.new _ _ _ _ _ _ _ _ _
  have v0 := hN.c0; have v7 := hN.c7
  rw [hwa] at v0 v7
  have HB := Lib.hid hb
  have HWA := Lib.hid hwa
  clear hb hN hwa
  go_enter Tryz.func150, Tryz.ntmps150
  go_wp2_with fail
  rw [← HWA.out]
  refine (roll_c 0 2 wa (by decide) (by omega)).mono ?_
  rintro e w2 ⟨v, rfl, ho, hb2⟩
  have HO := Lib.hid ho
  have HB2 := Lib.hid (HB.out.trans (below_le' hb2 HB.out.size))
  clear ho hb2
  go_wp2_with fail
  go_ret2
  exact ⟨v, ret_tup (c := .nilIface) (by rw [show (2 : Int) = ((2 : Nat) : Int) from rfl, eq_nat]; rfl), by
    have h := own_lower HO.out HB.out.size
    have e : (rolesP 10 m).1 = List.replicate 2 0 := rfl
    rw [e, List.length_replicate]; exact h, HB2.out⟩

set_option maxRecDepth 100000 in
set_option maxHeartbeats 2000000 in
theorem roles_11 (ln : Int) (s : ByteArray) (k n : Int) (t : ByteArray) (vv : Value) (sa : Option Addr) (m sc : Nat) (w : World) (hm : m ≤ 4096) :
    Calls Tryz.prog 150 #[.agg #[.int .i64 11, .int .i64 ln, .string s, .int .i64 k, .int .i64 n, .string t, vv, .slice sa m sc]] w (RolesOut w 11 m) := by
  obtain ⟨wa, hwa⟩ : ∃ wa, wa = w.alloc (.cells #[.int .i64 11, .int .i64 ln, .string s, .int .i64 k, .int .i64 n, .string t, vv, .slice sa m sc] 31) := ⟨_, rfl⟩
  have hb : Below w.heap.size w wa := by rw [hwa]; exact (Below.refl _ _).alloc (Nat.le_refl _) _
  have hN : NdB wa w.heap.size (.int .i64 11) (.int .i64 ln) (.string s) (.int .i64 k) (.int .i64 n) (.string t) vv (.slice sa m sc) := by rw [hwa]; exact NdB.new _ _ _ _ _ _ _ _ _
  have v0 := hN.c0; have v7 := hN.c7
  rw [hwa] at v0 v7
  have HB := Lib.hid hb
  have HWA := Lib.hid hwa
  clear hb hN hwa
  go_enter Tryz.func150, Tryz.ntmps150
  go_wp2_with fail
  rw [← HWA.out]
  refine (roll_c 0 2 wa (by decide) (by omega)).mono ?_
  rintro e w2 ⟨v, rfl, ho, hb2⟩
  have HO := Lib.hid ho
  have HB2 := Lib.hid (HB.out.trans (below_le' hb2 HB.out.size))
  clear ho hb2
  go_wp2_with fail
  go_ret2
  exact ⟨v, ret_tup (c := .nilIface) (by rw [show (2 : Int) = ((2 : Nat) : Int) from rfl, eq_nat]; rfl), by
    have h := own_lower HO.out HB.out.size
    have e : (rolesP 11 m).1 = List.replicate 2 0 := rfl
    rw [e, List.length_replicate]; exact h, HB2.out⟩

set_option maxRecDepth 100000 in
set_option maxHeartbeats 2000000 in
theorem roles_12 (ln : Int) (s : ByteArray) (k n : Int) (t : ByteArray) (vv : Value) (sa : Option Addr) (m sc : Nat) (w : World) (hm : m ≤ 4096) :
    Calls Tryz.prog 150 #[.agg #[.int .i64 12, .int .i64 ln, .string s, .int .i64 k, .int .i64 n, .string t, vv, .slice sa m sc]] w (RolesOut w 12 m) := by
  obtain ⟨wa, hwa⟩ : ∃ wa, wa = w.alloc (.cells #[.int .i64 12, .int .i64 ln, .string s, .int .i64 k, .int .i64 n, .string t, vv, .slice sa m sc] 31) := ⟨_, rfl⟩
  have hb : Below w.heap.size w wa := by rw [hwa]; exact (Below.refl _ _).alloc (Nat.le_refl _) _
  have hN : NdB wa w.heap.size (.int .i64 12) (.int .i64 ln) (.string s) (.int .i64 k) (.int .i64 n) (.string t) vv (.slice sa m sc) := by rw [hwa]; exact NdB.new _ _ _ _ _ _ _ _ _
  have v0 := hN.c0; have v7 := hN.c7
  rw [hwa] at v0 v7
  have HB := Lib.hid hb
  have HWA := Lib.hid hwa
  clear hb hN hwa
  go_enter Tryz.func150, Tryz.ntmps150
  go_wp2_with fail
  rw [← HWA.out]
  refine (roll_c 0 2 wa (by decide) (by omega)).mono ?_
  rintro e w2 ⟨v, rfl, ho, hb2⟩
  have HO := Lib.hid ho
  have HB2 := Lib.hid (HB.out.trans (below_le' hb2 HB.out.size))
  clear ho hb2
  go_wp2_with fail
  go_ret2
  exact ⟨v, ret_tup (c := .nilIface) (by rw [show (2 : Int) = ((2 : Nat) : Int) from rfl, eq_nat]; rfl), by
    have h := own_lower HO.out HB.out.size
    have e : (rolesP 12 m).1 = List.replicate 2 0 := rfl
    rw [e, List.length_replicate]; exact h, HB2.out⟩

set_option maxRecDepth 100000 in
set_option maxHeartbeats 2000000 in
theorem roles_13 (ln : Int) (s : ByteArray) (k n : Int) (t : ByteArray) (vv : Value) (sa : Option Addr) (m sc : Nat) (w : World) (hm : m ≤ 4096) :
    Calls Tryz.prog 150 #[.agg #[.int .i64 13, .int .i64 ln, .string s, .int .i64 k, .int .i64 n, .string t, vv, .slice sa m sc]] w (RolesOut w 13 m) := by
  obtain ⟨wa, hwa⟩ : ∃ wa, wa = w.alloc (.cells #[.int .i64 13, .int .i64 ln, .string s, .int .i64 k, .int .i64 n, .string t, vv, .slice sa m sc] 31) := ⟨_, rfl⟩
  have hb : Below w.heap.size w wa := by rw [hwa]; exact (Below.refl _ _).alloc (Nat.le_refl _) _
  have hN : NdB wa w.heap.size (.int .i64 13) (.int .i64 ln) (.string s) (.int .i64 k) (.int .i64 n) (.string t) vv (.slice sa m sc) := by rw [hwa]; exact NdB.new _ _ _ _ _ _ _ _ _
  have v0 := hN.c0; have v7 := hN.c7
  rw [hwa] at v0 v7
  have HB := Lib.hid hb
  have HWA := Lib.hid hwa
  clear hb hN hwa
  go_enter Tryz.func150, Tryz.ntmps150
  go_wp2_with fail
  rw [← HWA.out]
  refine (roll_c 0 2 wa (by decide) (by omega)).mono ?_
  rintro e w2 ⟨v, rfl, ho, hb2⟩
  have HO := Lib.hid ho
  have HB2 := Lib.hid (HB.out.trans (below_le' hb2 HB.out.size))
  clear ho hb2
  go_wp2_with fail
  go_ret2
  exact ⟨v, ret_tup (c := .nilIface) (by rw [show (2 : Int) = ((2 : Nat) : Int) from rfl, eq_nat]; rfl), by
    have h := own_lower HO.out HB.out.size
    have e : (rolesP 13 m).1 = List.replicate 2 0 := rfl
    rw [e, List.length_replicate]; exact h, HB2.out⟩

set_option maxRecDepth 100000 in
set_option maxHeartbeats 2000000 in
theorem roles_14 (ln : Int) (s : ByteArray) (k n : Int) (t : ByteArray) (vv : Value) (sa : Option Addr) (m sc : Nat) (w : World) (hm : m ≤ 4096) :
    Calls Tryz.prog 150 #[.agg #[.int .i64 14, .int .i64 ln, .string s, .int .i64 k, .int .i64 n, .string t, vv, .slice sa m sc]] w (RolesOut w 14 m) := by
  obtain ⟨wa, hwa⟩ : ∃ wa, wa = w.alloc (.cells #[.int .i64 14, .int .i64 ln, .string s, .int .i64 k, .int .i64 n, .string t, vv, .slice sa m sc] 31) := ⟨_, rfl⟩
  have hb : Below w.heap.size w wa := by rw [hwa]; exact (Below.refl _ _).alloc (Nat.le_refl _) _
  have hN : NdB wa w.heap.size (.int .i64 14) (.int .i64 ln) (.string s) (.int .i64 k) (.int .i64 n) (.string t) vv (.slice sa m sc) := by rw [hwa]; exact NdB.new _ _ _ _ _ _ _ _ _
  have v0 := hN.c0; have v7 := hN.c7
  rw [hwa] at v0 v7
  have HB := Lib.hid hb
  have HWA := Lib.hid hwa
  clear hb hN hwa
  go_enter Tryz.func150, Tryz.ntmps150
  go_wp2_with fail
  rw [← HWA.out]
  refine (roll_c 0 2 wa (by decide) (by omega)).mono ?_
  rintro e w2 ⟨v, rfl, ho, hb2⟩
  have HO := Lib.hid ho
  have HB2 := Lib.hid (HB.out.trans (below_le' hb2 HB.out.size))
  clear ho hb2
  go_wp2_with fail
  go_ret2
  exact ⟨v, ret_tup (c := .nilIface) (by rw [show (2 : Int) = ((2 : Nat) : Int) from rfl, eq_nat]; rfl), by
    have h := own_lower HO.out HB.out.size
    have e : (rolesP 14 m).1 = List.replicate 2 0 := rfl
    rw [e, List.length_replicate]; exact h, HB2.out⟩

set_option maxRecDepth 100000 in
set_option maxHeartbeats 2000000 in
theorem roles_15 (ln : Int) (s : ByteArray) (k n : Int) (t : ByteArray) (vv : Value) (sa : Option Addr) (m sc : Nat) (w : World) (hm : m ≤ 4096) :
    Calls Tryz.prog 150 #[.agg #[.int .i64 15, .int .i64 ln, .string s, .int .i64 k, .int .i64 n, .string t, vv, .slice sa m sc]] w (RolesOut w 15 m) := by
  obtain ⟨wa, hwa⟩ : ∃ wa, wa = w.alloc (.cells #[.int .i64 15, .int .i64 ln, .string s, .int .i64 k, .int .i64 n, .string t, vv, .slice sa m sc] 31) := ⟨_, rfl⟩
  have hb : Below w.heap.size w wa := by rw [hwa]; exact (Below.refl _ _).alloc (Nat.le_refl _) _
  have hN : NdB wa w.heap.size (.int .i64 15) (.int .i64 ln) (.string s) (.int .i64 k) (.int .i64 n) (.string t) vv (.slice sa m sc) := by rw [hwa]; exact NdB.new _ _ _ _ _ _ _ _ _
  have v0 := hN.c0; have v7 := hN.c7
  rw [hwa] at v0 v7
  have HB := Lib.hid hb
  have HWA := Lib.hid hwa
  clear hb hN hwa
  go_enter Tryz.func150, Tryz.ntmps150
  go_wp2_with fail
  rw [← HWA.out]
  refine (roll_c 0 2 wa (by decide) (by omega)).mono ?_
  rintro e w2 ⟨v, rfl, ho, hb2⟩
  have HO := Lib.hid ho
  have HB2 := Lib.hid (HB.out.trans (below_le' hb2 HB.out.size))
  clear ho hb2
  go_wp2_with fail
  go_ret2
  exact ⟨v, ret_tup (c := .nilIface) (by rw [show (2 : Int) = ((2 : Nat) : Int) from rfl, eq_nat]; rfl), by
    have h := own_lower HO.out HB.out.size
    have e : (rolesP 15 m).1 = List.replicate 2 0 := rfl
    rw [e, List.length_replicate]; exact h, HB2.out⟩

set_option maxRecDepth 100000 in
set_option maxHeartbeats 2000000 in
theorem roles_16 (ln : Int) (s : ByteArray) (k n : Int) (t : ByteArray) (vv : Value) (sa : Option Addr) (m sc : Nat) (w : World) (hm : m ≤ 4096) :
    Calls Tryz.prog 150 #[.agg #[.int .i64 16, .int .i64 ln, .string s, .int .i64 k, .int .i64 n, .string t, vv, .slice sa m sc]] w (RolesOut w 16 m) := by
  obtain ⟨wa, hwa⟩ : ∃ wa, wa = w.alloc (.cells #[.int .i64 16, .int .i64 ln, .string s, .int .i64 k, .int .i64 n, .string t, vv, .slice sa m sc] 31) := ⟨_, rfl⟩
  have hb : Below w.heap.size w wa := by rw [hwa]; exact (Below.refl _ _).alloc (Nat.le_refl _) _
  have hN : NdB wa w.heap.size (.int .i64 16) (.int .i64 ln) (.string s) (.int .i64 k) (.int .i64 n) (.string t) vv (.slice sa m sc) := by rw [hwa]; exact NdB.new _ _ _ _ _ _ _ _ _
  have v0 := hN.c0; have v7 := hN.c7
  rw [hwa] at v0 v7
  have HB := Lib.hid hb
  have HWA := Lib.hid hwa
  clear hb hN hwa
  go_enter Tryz.func150, Tryz.ntmps150
  go_wp2_with fail
  rw [← HWA.out]
  refine (roll_c 0 2 wa (by decide) (by omega)).mono ?_
  rintro e w2 ⟨v, rfl, ho, hb2⟩
  have HO := Lib.hid ho
  have HB2 := Lib.hid (HB.out.trans (below_le' hb2 HB.out.size))
  clear ho hb2
  go_wp2_with fail
  go_ret2
  exact ⟨v, ret_tup (c := .nilIface) (by rw [show (2 : Int) = ((2 : Nat) : Int) from rfl, eq_nat]; rfl), by
    have h := own_lower HO.out HB.out.size
    have e : (rolesP 16 m).1 = List.replicate 2 0 := rfl
    rw [e, List.length_replicate]; exact h, HB2.out⟩

set_option maxRecDepth 100000 in
set_option maxHeartbeats 2000000 in
theorem roles_17 (ln : Int) (s : ByteArray) (k n : Int) (t : ByteArray) (vv : Value) (sa : Option Addr) (m sc : Nat) (w : World) (hm : m ≤ 4096) :
    Calls Tryz.prog 150 #[.agg #[.int .i64 17, .int .i64 ln, .string s, .int .i64 k, .int .i64 n, .string t, vv, .slice sa m sc]] w (RolesOut w 17 m) := by
  obtain ⟨wa, hwa⟩ : ∃ wa, wa = w.alloc (.cells #[.int .i64 17, .int .i64 ln, .string s, .int .i64 k, .int .i64 n, .string t, vv, .slice sa m sc] 31) := ⟨_, rfl⟩
  have hb : Below w.heap.size w wa := by rw [hwa]; exact (Below.refl _ _).alloc (Nat.le_refl _) _
  have hN : NdB wa w.heap.size (.int .i64 17) (.int .i64 ln) (.string s) (.int .i64 k) (.int .i64 n) (.string t) vv (.slice sa m sc) := by rw [hwa]; exact NdB.new _ _ _ _ _ _ _ _ _
  have v0 := hN.c0; have v7 := hN.c7
  rw [hwa] at v0 v7
  have HB := Lib.hid hb
  have HWA := Lib.hid hwa
  clear hb hN hwa
  go_enter Tryz.func150, Tryz.ntmps150
  go_wp2_with fail
  rw [← HWA.out]
  refine (roll_c 0 2 wa (by decide) (by omega)).mono ?_
  rintro e w2 ⟨v, rfl, ho, hb2⟩
  have HO := Lib.hid ho
  have HB2 := Lib.hid (HB.out.trans (below_le' hb2 HB.out.size))
  clear ho hb2
  go_wp2_with fail
  go_ret2
  exact ⟨v, ret_tup (c := .nilIface) (by rw [show (2 : Int) = ((2 : Nat) : Int) from rfl, eq_nat]; rfl), by
    have h := own_lower HO.out HB.out.size
    have e : (rolesP 17 m).1 = List.replicate 2 0 := rfl
    rw [e, List.length_replicate]; exact h, HB2.out⟩

set_option maxRecDepth 100000 in
set_option maxHeartbeats 2000000 in
theorem roles_18 (ln : Int) (s : ByteArray) (k n : Int) (t : ByteArray) (vv : Value) (sa : Option Addr) (m sc : Nat) (w : World) (hm : m ≤ 4096) :
    Calls Tryz.prog 150 #[.agg #[.int .i64 18, .int .i64 ln, .string s, .int .i64 k, .int .i64 n, .string t, vv, .slice sa m sc]] w (RolesOut w 18 m) := by
  obtain ⟨wa, hwa⟩ : ∃ wa, wa = w.alloc (.cells #[.int .i64 18, .int .i64 ln, .string s, .int .i64 k, .int .i64 n, .string t, vv, .slice sa m sc] 31) := ⟨_, rfl⟩
  have hb : Below w.heap.size w wa := by rw [hwa]; exact (Below.refl _ _).alloc (Nat.le_refl _) _
  have hN : NdB wa w.heap.size (.int .i64 18) (.int .i64 ln) (.string s) (.int .i64 k) (.int .i64 n) (.string t) vv (.slice sa m sc) := by rw [hwa]; exact NdB.new _ _ _ _ _ _ _ _ _
  have v0 := hN.c0; have v7 := hN.c7
  rw [hwa] at v0 v7
  have HB := Lib.hid hb
  have HWA := Lib.hid hwa
  clear hb hN hwa
  go_enter Tryz.func150, Tryz.ntmps150
  go_wp2_with fail
  rw [← HWA.out]
  refine (roll_c 0 2 wa (by decide) (by omega)).mono ?_
  rintro e w2 ⟨v, rfl, ho, hb2⟩
  have HO := Lib.hid ho
  have HB2 := Lib.hid (HB.out.trans (below_le' hb2 HB.out.size))
  clear ho hb2
  go_wp2_with fail
  go_ret2
  exact ⟨v, ret_tup (c := .nilIface) (by rw [show (2 : Int) = ((2 : Nat) : Int) from rfl, eq_nat]; rfl), by
    have h := own_lower HO.out HB.out.size
    have e : (rolesP 18 m).1 = List.replicate 2 0 := rfl
    rw [e, List.length_replicate]; exact h, HB2.out⟩

set_option maxRecDepth 100000 in
set_option maxHeartbeats 2000000 in
theorem roles_20 (ln : Int) (s : ByteArray) (k n : Int) (t : ByteArray) (vv : Value) (sa : Option Addr) (m sc : Nat) (w : World) (hm : m ≤ 4096) :
    Calls Tryz.prog 150 #[.agg #[.int .i64 20, .int .i64 ln, .string s, .int .i64 k, .int .i64 n, .string t, vv, .slice sa m sc]] w (RolesOut w 20 m) := by
  obtain ⟨wa, hwa⟩ : ∃ wa, wa = w.alloc (.cells #[.int .i64 20, .int .i64 ln, .string s, .int .i64 k, .int .i64 n, .string t, vv, .slice sa m sc] 31) := ⟨_, rfl⟩
  have hb : Below w.heap.size w wa := by rw [hwa]; exact (Below.refl _ _).alloc (Nat.le_refl _) _
  have hN : NdB wa w.heap.size (.int .i64 20) (.int .i64 ln) (.string s) (.int .i64 k) (.int .i64 n) (.string t) vv (.slice sa m sc) := by rw [hwa]; exact NdB.new _ _ _ _ _ _ _ _ _
  have v0 := hN.c0; have v7 := hN.c7
  rw [hwa] at v0 v7
  have HB := Lib.hid hb
  have HWA := Lib.hid hwa
  clear hb hN hwa
  go_enter Tryz.func150, Tryz.ntmps150
  go_wp2_with fail
  rw [← HWA.out]
  refine (roll_c 0 2 wa (by decide) (by omega)).mono ?_
  rintro e w2 ⟨v, rfl, ho, hb2⟩
  have HO := Lib.hid ho
  have HB2 := Lib.hid (HB.out.trans (below_le' hb2 HB.out.size))
  clear ho hb2
  go_wp2_with fail
  go_ret2
  exact ⟨v, ret_tup (c := .nilIface) (by rw [show (2 : Int) = ((2 : Nat) : Int) from rfl, eq_nat]; rfl), by
    have h := own_lower HO.out HB.out.size
    have e : (rolesP 20 m).1 = List.replicate 2 0 := rfl
    rw [e, List.length_replicate]; exact h, HB2.out⟩

set_option maxRecDepth 100000 in
set_option maxHeartbeats 2000000 in
theorem roles_22 (ln : Int) (s : ByteArray) (k n : Int) (t : ByteArray) (vv : Value) (sa : Option Addr) (m sc : Nat) (w : World) (hm : m ≤ 4096) :
    Calls Tryz.prog 150 #[.agg #[.int .i64 22, .int .i64 ln, .string s, .int .i64 k, .int .i64 n, .string t, vv, .slice sa m sc]] w (RolesOut w 22 m) := by
  obtain ⟨wa, hwa⟩ : ∃ wa, wa = w.alloc (.cells #[.int .i64 22, .int .i64 ln, .string s, .int .i64 k, .int .i64 n, .string t, vv, .slice sa m sc] 31) := ⟨_, rfl⟩
  have hb : Below w.heap.size w wa := by rw [hwa]; exact (Below.refl _ _).alloc (Nat.le_refl _) _
  have hN : NdB wa w.heap.size (.int .i64 22) (.int .i64 ln) (.string s) (.int .i64 k) (.int .i64 n) (.string t) vv (.slice sa m sc) := by rw [hwa]; exact NdB.new _ _ _ _ _ _ _ _ _
  have v0 := hN.c0; have v7 := hN.c7
  rw [hwa] at v0 v7
  have HB := Lib.hid hb
  have HWA := Lib.hid hwa
  clear hb hN hwa
  go_enter Tryz.func150, Tryz.ntmps150
  go_wp2_with fail
  rw [← HWA.out]
  refine (roll_c 0 2 wa (by decide) (by omega)).mono ?_
  rintro e w2 ⟨v, rfl, ho, hb2⟩
  have HO := Lib.hid ho
  have HB2 := Lib.hid (HB.out.trans (below_le' hb2 HB.out.size))
  clear ho hb2
  go_wp2_with fail
  go_ret2
  exact ⟨v, ret_tup (c := .nilIface) (by rw [show (2 : Int) = ((2 : Nat) : Int) from rfl, eq_nat]; rfl), by
    have h := own_lower HO.out HB.out.size
    have e : (rolesP 22 m).1 = List.replicate 2 0 := rfl
    rw [e, List.length_replicate]; exact h, HB2.out⟩
end Go.Proofs.YtggngahmafbihaaGreatDoor
