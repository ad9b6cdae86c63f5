/- Contracts of the functions that the statement reaches, and the plain mathematics beneath: several texts joined. -/
import Derived.Test.YtjibjgokloondaaGreatDoorParS
import Derived.Test.YtjibjgokloondaaGreatDoorParD
import Derived.Test.YtjibjgokloondaaGreatDoorParC
import Derived.Laws.AppendOwnNone
import Derived.Maps.AppendAt
import Derived.Test.YtjibjgokloondaaGreatDoorParN
import Derived.Test.YtjibjgokloondaaGreatDoorParO
import Derived.Test.YtjibjgokloondaaGreatDoorParA
import Derived.Test.YtjibjgokloondaaGreatDoorParB
import Derived.Test.YtjibjgokloondaaGreatDoorParE
import Derived.Test.YtjibjgokloondaaGreatDoorParF
import Derived.Test.YtjibjgokloondaaGreatDoorParG
import Derived.Test.YtjibjgokloondaaGreatDoorParH
import Derived.Test.YtjibjgokloondaaGreatDoorParI
import Derived.Test.YtjibjgokloondaaGreatDoorParJ
import Derived.Test.YtjibjgokloondaaGreatDoorParK
import Derived.Test.YtjibjgokloondaaGreatDoorParL
import Derived.Test.YtjibjgokloondaaGreatDoorParM
import Derived.Test.YtjibjgokloondaaGreatDoorParP
import Derived.Test.YtjibjgokloondaaGreatDoorParQ
import Derived.Test.YtjibjgokloondaaGreatDoorParR
namespace Go.Proofs.YtjibjgokloondaaGreatDoor
open Go.RowKit Go.Lib
set_option linter.unusedVariables false

theorem tkCells_get : ∀ (L : List TokM) (j : Nat) (p : TokM), L[j]? = some p → ∀ k, k < 7 → (tkCells L)[7 * j + k]? = (tk7 p)[k]?
  | [], _, _, h, _, _ => by simp at h
  | q :: L, 0, p, h, k, hk => by
    simp at h; subst h
    rw [tkCells, Nat.mul_zero, Nat.zero_add, List.getElem?_append_left (by show k < 7; omega)]
  | q :: L, j + 1, p, h, k, hk => by
    rw [List.getElem?_cons_succ] at h
    rw [tkCells, List.getElem?_append_right (by show 7 ≤ _; omega), show 7 * (j + 1) + k - (tk7 q).length = 7 * j + k from by show 7 * (j + 1) + k - 7 = _; omega]
    exact tkCells_get L j p h k hk
theorem own_tkIn {w : World} {base g n cap : Nat} {L : List TokM} (h : w.ownsRow base 75 7 (.slice (some ⟨g, 0, none⟩) n cap) n (tkCells L)) (j : Nat) (p : TokM) (hp : L[j]? = some p) : TkIn w g (7 * j) p.1 p.2.1 p.2.2 := by
  have hc : ∀ k u, k < 7 → (tk7 p)[k]? = some u → w.cell? ⟨g, 7 * j + k, none⟩ = some u := by
    intro k u hk hu
    have := h.cells (g := g) rfl (7 * j + k) u (by rw [tkCells_get L j p hp k hk]; exact hu)
    have hadd : (⟨g, 0, none⟩ : Addr).add (7 * j + k) = ⟨g, 7 * j + k, none⟩ := by unfold Addr.add; split <;> simp_all
    rw [hadd] at this; exact this
  exact ⟨hc 0 _ (by decide) rfl, hc 1 _ (by decide) rfl, hc 2 _ (by decide) rfl, hc 3 _ (by decide) rfl, hc 4 _ (by decide) rfl, hc 5 _ (by decide) rfl, hc 6 _ (by decide) rfl⟩

/-- What a call of All shows of a text that is words, at least one. -/
def AllSome (l : List Tok) (w : World) (e : Ending) (w' : World) : Prop :=
  ∃ g cap, e = .returned (.tuple #[.slice (some ⟨g, 0, none⟩) l.length cap, .nilIface]) ∧ w.heap.size ≤ g ∧ g < w'.heap.size ∧ Below w.heap.size w w' ∧ l.length ≤ cap ∧ ∀ j t, l[j]? = some t → ∃ sa sc, TkIn w' g (7 * j) t sa sc
theorem all_some {s : ByteArray} {l : List Tok} (ea : Nat → Addr) (w : World) (he : LxEnv w ea) (hb : s.size ≤ 32768) (h : allW s = .inr l) (hl : 0 < l.length) :
    Calls Tryz.prog 16 #[.string s] w (AllSome l w) := by
  have := all_c s ea w he hb
  rw [h] at this
  refine this.mono ?_
  rintro e w' ⟨hbw, v, L, rfl, hown, hm⟩
  have hlen : L.length = l.length := by rw [← hm, List.length_map]
  have h2 := hown.2
  obtain ⟨g, cap, rfl, hg, hlt⟩ := hown.form (by omega)
  have hcap : l.length ≤ cap := by
    rcases h2 with ⟨h, _⟩ | ⟨g', cap', cur, h, _, _, hc, _⟩
    · cases h
    · injection h with _ _ h; omega
  refine ⟨g, cap, by rw [hlen], hg, hlt, hbw, hcap, fun j t hj => ?_⟩
  rw [← hm, List.getElem?_map] at hj
  cases hq : L[j]? with
  | none => rw [hq] at hj; cases hj
  | some p =>
    rw [hq] at hj
    simp at hj
    rw [← hj]
    exact ⟨_, _, own_tkIn hown j p hq⟩
def tokB (a b : Tok) : Bool := decide (a.kind = b.kind ∧ a.line = b.line ∧ a.s = b.s ∧ a.k = b.k ∧ a.n = b.n ∧ a.t = b.t)
def toksB : List Tok → List Tok → Bool
  | [], [] => true
  | a :: l, b :: m => tokB a b && toksB l m
  | _, _ => false
theorem toksB_eq : ∀ (l m : List Tok), toksB l m = true → l = m
  | [], [], _ => rfl
  | a :: l, b :: m, h => by
    rw [toksB, Bool.and_eq_true] at h
    obtain ⟨h1, h2⟩ := h
    obtain ⟨a1, a2, a3, a4, a5, a6⟩ := of_decide_eq_true h1
    cases a; cases b
    simp only at a1 a2 a3 a4 a5 a6
    rw [toksB_eq l m h2, a1, a2, a3, a4, a5, a6]
  | [], _ :: _, h => by cases h
  | _ :: _, [], h => by cases h
end Go.Proofs.YtjibjgokloondaaGreatDoor
namespace Go.Proofs.YtjibjgokloondaaGreatDoor

/-- What has to stand in a node (0 an expression, 1 an item, 2 what is set, 3 a Var, 4 the last Var, 5 codes, 6 a Block, 7 a statement, 8 an Except), and whether it has what it has to have. -/
def rolesP (op : Int) (n : Nat) : List Nat × Bool :=
  if op = 1 ∨ op = 2 ∨ op = 45 ∨ op = 46 then ([], n == 0)
  else if op = 3 ∨ op = 4 ∨ op = 26 ∨ op = 40 then ([0], n == 1)
  else if (5 ≤ op ∧ op ≤ 18) ∨ op = 20 ∨ op = 22 then ([0, 0], n == 2)
  else if op = 19 ∨ op = 21 then ([0, 0, 0], n == 3)
  else if op = 23 then ([0, 0] ++ List.replicate (n - 2) 1, decide (2 ≤ n))
  else if op = 24 ∨ op = 25 then (List.replicate n 1, true)
  else if op = 27 then ([2, 0], n == 2)
  else if op = 28 then ((List.replicate (n - 2) 3 ++ (if 1 < n then [4] else [])) ++ [0], decide (2 ≤ n))
  else if op = 29 then ([0, 5, 0].take (Nat.min n 3), n == 2 || n == 3)
  else if op = 41 then ((List.range n).map (fun i => if n % 2 = 1 ∧ i = n - 1 then 6 else if i % 2 = 0 then 0 else 6), decide (2 ≤ n))
  else if op = 42 ∨ op = 44 ∨ op = 48 then ([0, 6], n == 2)
  else if op = 43 then ([0, 0, 6], n == 3)
  else if op = 47 then (List.replicate n 0, decide (n ≤ 1))
  else if op = 49 then ([6] ++ List.replicate (n - 1) 8, decide (2 ≤ n))
  else if op = 50 then ([5, 6], n == 2)
  else if op = 51 then ([6, 6], n == 2)
  else if op = 52 then (List.replicate n 7, true)
  else ([], false)
end Go.Proofs.YtjibjgokloondaaGreatDoor
namespace Go.Proofs.YtjibjgokloondaaGreatDoor
open Go.RowKit Go.Lib
set_option linter.unusedVariables false

/-- Numbers in cells. -/
def ints (l : List Nat) : List Value := l.map fun (r : Nat) => Value.int .i64 (r : Int)
theorem ints_len (l : List Nat) : (ints l).length = l.length := List.length_map ..
theorem ints_app (a b : List Nat) : ints (a ++ b) = ints a ++ ints b := List.map_append
theorem int_info : (Tryz.prog.info? 3).map (fun i => (i.zero, i.size, i.bytes)) = some (some (.int .i64 0), 1, 8) := by kernel_rfl
theorem own_belowN {W W' : World} {base e size n : Nat} {v : Value} {xs : List Value} (h : W.ownsRow base e size v n xs) (hb : Below W.heap.size W W') : W'.ownsRow base e size v n xs := by
  refine ⟨h.1, ?_⟩
  rcases h.2 with h0 | ⟨g, cap, cur, hv, hb1, hh, r⟩
  · exact .inl h0
  · have hlt : g < W.heap.size := by
      rcases Nat.lt_or_ge g W.heap.size with hlt | hge
      · exact hlt
      · rw [Array.getElem?_eq_none hge] at hh; cases hh
    exact .inr ⟨g, cap, cur, hv, hb1, (hb.block g hlt).trans hh, r⟩
theorem own_geN {W : World} {base e size n : Nat} {v : Value} {xs : List Value} (h : W.ownsRow base e size v n xs) (k : Nat) (hk : v.ownBlock = some k) : base ≤ k := (h.lt k hk).1
theorem grown_belowN {B : Nat} {w w1 w2 : World} {row : Option Nat} (h : Below B w w1) (hz : B ≤ w1.heap.size) (hg : w1.grownBy w2 row) (hr : ∀ k, row = some k → B ≤ k) : Below B w w2 :=
  ⟨hg.os.trans h.os, hg.tape.trans h.tape, hg.output.trans h.output, Nat.le_trans h.size hg.size,
   fun k hk => (hg.block k (by omega) (fun e => by have := hr k e.symm; omega)).trans (h.block k hk)⟩
theorem info_partsN {P : Program} {t : TypeId} {a : Option Value} {b c : Nat} (h : (P.info? t).map (fun i => (i.zero, i.size, i.bytes)) = some (a, b, c)) : ∃ i, P.info? t = some i ∧ i.zero = a ∧ i.size = b ∧ i.bytes = c := by
  cases hq : P.info? t with
  | none => rw [hq] at h; cases h
  | some i => rw [hq] at h; injection h with h; injection h with h1 h; injection h with h2 h3; exact ⟨i, rfl, h1, h2, h3⟩

set_option maxRecDepth 100000 in
set_option maxHeartbeats 1000000 in
theorem roll_c (r k : Nat) (w : World) (hr : r ≤ 10) (hk : k ≤ 4200) :
    Calls Tryz.prog 101 #[.int .i64 (r : Int), .int .i64 (k : Int)] w fun e w' => ∃ v, e = .returned v ∧ w'.ownsRow w.heap.size 3 1 v k (ints (List.replicate k r)) ∧ Below w.heap.size w w' := by
  obtain ⟨i0, hi0, hz0, hz1, hz2⟩ := info_partsN int_info
  go_enter Tryz.func101, Tryz.ntmps101
  go_wp2_with fail
  go_loopg [5, 7] k (fun kk ov v wr => ∃ (bv : Value) (i : Nat), bv = ov ∧ v = .int .i64 i ∧ i + kk = k ∧ wr.ownsRow w.heap.size 3 1 bv i (ints (List.replicate i r)) ∧ Below w.heap.size w wr)
  case atStart => exact ⟨.slice none 0 0, 0, rfl, rfl, by omega, World.ownsRow_nil _ _ _ _, Below.refl _ _⟩
  case round =>
    obtain ⟨bv, i, rfl, rfl, hik, hrow, hbr⟩ := hrel
    have hrz := hbr.size
    by_cases hi : i < k
    · obtain ⟨g, rfl⟩ : ∃ g, gk = g + 1 := ⟨gk - 1, by omega⟩
      have HROW := Lib.hid hrow
      have HBR := Lib.hid hbr
      clear hrow hbr
      go_wp2_with (at_builtin; refine wpList_append_own _ rfl (.tmp 9) (.tmp 11) 24 rfl w.heap.size 3 i0 (.int .i64 0) 1 8 Tryz.underlying24 hi0 hz0 hz1 hz2 rfl (by decide) bv i (ints (List.replicate i r)) rfl (own_belowN HROW.out ((Below.refl _ _).alloc (Nat.le_refl _) _)) ⟨wr.heap.size, 0, none⟩ 1 1 [.int .i64 (r : Int)] rfl rfl ?c1 ?c2 ?c3 ?c4 ?c5 ?c6
                   case c1 => exact cell_one_new _ _ _
                   case c2 => intro u hu; simp at hu; subst hu; rfl
                   case c3 => unfold maxLen; omega
                   case c4 => omega
                   case c5 => simp; omega
                   intro v' w11 hown' hgrow _
                   have HB11 := Lib.hid (grown_belowN (HBR.out.alloc HBR.out.size _) (by simp; omega) hgrow (fun k hk => own_geN HROW.out k hk))
                   have HO11 := Lib.hid hown'
                   clear hown' hgrow)
      go_roundg g
      case measure => omega
      case rel => exact ⟨v', i + 1, rfl, by go_num, by omega, by
        have h := HO11.out
        have e : ints (List.replicate (i + 1) r) = ints (List.replicate i r) ++ [.int .i64 (r : Int)] := by rw [List.replicate_succ', ints_app]; rfl
        rw [e]; exact h, HB11.out⟩
    · obtain rfl : i = k := by omega
      have HROW := Lib.hid hrow
      have HBR := Lib.hid hbr
      clear hrow hbr
      go_wp2_with fail
      go_ret
      exact ⟨bv, rfl, HROW.out, HBR.out⟩
end Go.Proofs.YtjibjgokloondaaGreatDoor
namespace Go.Proofs.YtjibjgokloondaaGreatDoor
open Go.RowKit Go.Lib
set_option linter.unusedVariables false

/-- What a call of roles leaves. -/
def RolesOut (w : World) (op : Int) (n : Nat) (e : Ending) (w' : World) : Prop :=
  ∃ v, e = .returned (.tuple #[v, .bool (rolesP op n).2]) ∧ w'.ownsRow w.heap.size 3 1 v (rolesP op n).1.length (ints (rolesP op n).1) ∧ Below w.heap.size w w'
theorem ret_tup {a c : Value} {b b' : Bool} (h : b = b') : Ending.returned (.tuple #[a, .bool b]) = .returned (.tuple #[a, .bool b']) := by rw [h]
theorem eq_nat (n m : Nat) : ((n : Int) == (m : Int)) = (n == m) := by
  rw [Bool.eq_iff_iff, beq_iff_eq, beq_iff_eq]; omega
theorem le_nat (n m : Nat) : decide ((m : Int) ≤ (n : Int)) = decide (m ≤ n) := by
  rw [Bool.eq_iff_iff]; simp
theorem own_lit (w : World) {cs : Array Value} {n : Nat} {base : Nat} (hb : base ≤ w.heap.size) (hm : n ≤ maxLen) (hs : cs.size = n * 1) : (w.alloc (.cells cs 3)).ownsRow base 3 1 (.slice (some ⟨w.heap.size, 0, none⟩) n n) n cs.toList := World.ownsRow_lit w cs n hb hm hs

theorem own_lower {w : World} {base base' e size n : Nat} {v : Value} {xs : List Value} (h : w.ownsRow base e size v n xs) (hb : base' ≤ base) : w.ownsRow base' e size v n xs := by
  refine ⟨h.1, ?_⟩
  rcases h.2 with h0 | ⟨g, cap, cur, hv, hb1, r⟩
  · exact .inl h0
  · exact .inr ⟨g, cap, cur, hv, Nat.le_trans hb hb1, r⟩

set_option maxRecDepth 100000 in
set_option maxHeartbeats 2000000 in
theorem roles_1 (ln : Int) (s : ByteArray) (k n : Int) (t : ByteArray) (vv : Value) (sa : Option Addr) (m sc : Nat) (w : World) (hm : m ≤ 4096) :
    Calls Tryz.prog 84 #[.agg #[.int .i64 1, .int .i64 ln, .string s, .int .i64 k, .int .i64 n, .string t, vv, .slice sa m sc]] w (RolesOut w 1 m) := by
  obtain ⟨wa, hwa⟩ : ∃ wa, wa = w.alloc (.cells #[.int .i64 1, .int .i64 ln, .string s, .int .i64 k, .int .i64 n, .string t, vv, .slice sa m sc] 31) := ⟨_, rfl⟩
  have hb : Below w.heap.size w wa := by rw [hwa]; exact (Below.refl _ _).alloc (Nat.le_refl _) _
  have hN : NdB wa w.heap.size (.int .i64 1) (.int .i64 ln) (.string s) (.int .i64 k) (.int .i64 n) (.string t) vv (.slice sa m sc) := by rw [hwa]; exact NdB.new _ _ _ _ _ _ _ _ _
  have v0 := hN.c0; have v7 := hN.c7
  rw [hwa] at v0 v7
  have HB := Lib.hid hb
  have HWA := Lib.hid hwa
  clear hb hN hwa
  go_enter Tryz.func84, Tryz.ntmps84
  go_wp2_with fail
  rw [← HWA.out]
  go_ret2
  exact ⟨_, ret_tup (c := .nilIface) (by rw [show (0 : Int) = ((0 : Nat) : Int) from rfl, eq_nat]; rfl), World.ownsRow_nil _ _ _ _, HB.out⟩

set_option maxRecDepth 100000 in
set_option maxHeartbeats 2000000 in
theorem roles_2 (ln : Int) (s : ByteArray) (k n : Int) (t : ByteArray) (vv : Value) (sa : Option Addr) (m sc : Nat) (w : World) (hm : m ≤ 4096) :
    Calls Tryz.prog 84 #[.agg #[.int .i64 2, .int .i64 ln, .string s, .int .i64 k, .int .i64 n, .string t, vv, .slice sa m sc]] w (RolesOut w 2 m) := by
  obtain ⟨wa, hwa⟩ : ∃ wa, wa = w.alloc (.cells #[.int .i64 2, .int .i64 ln, .string s, .int .i64 k, .int .i64 n, .string t, vv, .slice sa m sc] 31) := ⟨_, rfl⟩
  have hb : Below w.heap.size w wa := by rw [hwa]; exact (Below.refl _ _).alloc (Nat.le_refl _) _
  have hN : NdB wa w.heap.size (.int .i64 2) (.int .i64 ln) (.string s) (.int .i64 k) (.int .i64 n) (.string t) vv (.slice sa m sc) := by rw [hwa]; exact NdB.new _ _ _ _ _ _ _ _ _
  have v0 := hN.c0; have v7 := hN.c7
  rw [hwa] at v0 v7
  have HB := Lib.hid hb
  have HWA := Lib.hid hwa
  clear hb hN hwa
  go_enter Tryz.func84, Tryz.ntmps84
  go_wp2_with fail
  rw [← HWA.out]
  go_ret2
  exact ⟨_, ret_tup (c := .nilIface) (by rw [show (0 : Int) = ((0 : Nat) : Int) from rfl, eq_nat]; rfl), World.ownsRow_nil _ _ _ _, HB.out⟩

set_option maxRecDepth 100000 in
set_option maxHeartbeats 2000000 in
theorem roles_45 (ln : Int) (s : ByteArray) (k n : Int) (t : ByteArray) (vv : Value) (sa : Option Addr) (m sc : Nat) (w : World) (hm : m ≤ 4096) :
    Calls Tryz.prog 84 #[.agg #[.int .i64 45, .int .i64 ln, .string s, .int .i64 k, .int .i64 n, .string t, vv, .slice sa m sc]] w (RolesOut w 45 m) := by
  obtain ⟨wa, hwa⟩ : ∃ wa, wa = w.alloc (.cells #[.int .i64 45, .int .i64 ln, .string s, .int .i64 k, .int .i64 n, .string t, vv, .slice sa m sc] 31) := ⟨_, rfl⟩
  have hb : Below w.heap.size w wa := by rw [hwa]; exact (Below.refl _ _).alloc (Nat.le_refl _) _
  have hN : NdB wa w.heap.size (.int .i64 45) (.int .i64 ln) (.string s) (.int .i64 k) (.int .i64 n) (.string t) vv (.slice sa m sc) := by rw [hwa]; exact NdB.new _ _ _ _ _ _ _ _ _
  have v0 := hN.c0; have v7 := hN.c7
  rw [hwa] at v0 v7
  have HB := Lib.hid hb
  have HWA := Lib.hid hwa
  clear hb hN hwa
  go_enter Tryz.func84, Tryz.ntmps84
  go_wp2_with fail
  rw [← HWA.out]
  go_ret2
  exact ⟨_, ret_tup (c := .nilIface) (by rw [show (0 : Int) = ((0 : Nat) : Int) from rfl, eq_nat]; rfl), World.ownsRow_nil _ _ _ _, HB.out⟩

set_option maxRecDepth 100000 in
set_option maxHeartbeats 2000000 in
theorem roles_46 (ln : Int) (s : ByteArray) (k n : Int) (t : ByteArray) (vv : Value) (sa : Option Addr) (m sc : Nat) (w : World) (hm : m ≤ 4096) :
    Calls Tryz.prog 84 #[.agg #[.int .i64 46, .int .i64 ln, .string s, .int .i64 k, .int .i64 n, .string t, vv, .slice sa m sc]] w (RolesOut w 46 m) := by
  obtain ⟨wa, hwa⟩ : ∃ wa, wa = w.alloc (.cells #[.int .i64 46, .int .i64 ln, .string s, .int .i64 k, .int .i64 n, .string t, vv, .slice sa m sc] 31) := ⟨_, rfl⟩
  have hb : Below w.heap.size w wa := by rw [hwa]; exact (Below.refl _ _).alloc (Nat.le_refl _) _
  have hN : NdB wa w.heap.size (.int .i64 46) (.int .i64 ln) (.string s) (.int .i64 k) (.int .i64 n) (.string t) vv (.slice sa m sc) := by rw [hwa]; exact NdB.new _ _ _ _ _ _ _ _ _
  have v0 := hN.c0; have v7 := hN.c7
  rw [hwa] at v0 v7
  have HB := Lib.hid hb
  have HWA := Lib.hid hwa
  clear hb hN hwa
  go_enter Tryz.func84, Tryz.ntmps84
  go_wp2_with fail
  rw [← HWA.out]
  go_ret2
  exact ⟨_, ret_tup (c := .nilIface) (by rw [show (0 : Int) = ((0 : Nat) : Int) from rfl, eq_nat]; rfl), World.ownsRow_nil _ _ _ _, HB.out⟩

set_option maxRecDepth 100000 in
set_option maxHeartbeats 2000000 in
theorem roles_3 (ln : Int) (s : ByteArray) (k n : Int) (t : ByteArray) (vv : Value) (sa : Option Addr) (m sc : Nat) (w : World) (hm : m ≤ 4096) :
    Calls Tryz.prog 84 #[.agg #[.int .i64 3, .int .i64 ln, .string s, .int .i64 k, .int .i64 n, .string t, vv, .slice sa m sc]] w (RolesOut w 3 m) := by
  obtain ⟨wa, hwa⟩ : ∃ wa, wa = w.alloc (.cells #[.int .i64 3, .int .i64 ln, .string s, .int .i64 k, .int .i64 n, .string t, vv, .slice sa m sc] 31) := ⟨_, rfl⟩
  have hb : Below w.heap.size w wa := by rw [hwa]; exact (Below.refl _ _).alloc (Nat.le_refl _) _
  have hN : NdB wa w.heap.size (.int .i64 3) (.int .i64 ln) (.string s) (.int .i64 k) (.int .i64 n) (.string t) vv (.slice sa m sc) := by rw [hwa]; exact NdB.new _ _ _ _ _ _ _ _ _
  have v0 := hN.c0; have v7 := hN.c7
  rw [hwa] at v0 v7
  have HB := Lib.hid hb
  have HWA := Lib.hid hwa
  clear hb hN hwa
  go_enter Tryz.func84, Tryz.ntmps84
  go_wp2_with fail
  rw [← HWA.out]
  refine (roll_c 0 1 wa (by decide) (by omega)).mono ?_
  rintro e w2 ⟨v, rfl, ho, hb2⟩
  have HO := Lib.hid ho
  have HB2 := Lib.hid (HB.out.trans (below_le' hb2 HB.out.size))
  clear ho hb2
  go_wp2_with fail
  go_ret2
  exact ⟨v, ret_tup (c := .nilIface) (by rw [show (1 : Int) = ((1 : Nat) : Int) from rfl, eq_nat]; rfl), by
    have h := own_lower HO.out HB.out.size
    have e : (rolesP 3 m).1 = List.replicate 1 0 := rfl
    rw [e, List.length_replicate]; exact h, HB2.out⟩

set_option maxRecDepth 100000 in
set_option maxHeartbeats 2000000 in
theorem roles_4 (ln : Int) (s : ByteArray) (k n : Int) (t : ByteArray) (vv : Value) (sa : Option Addr) (m sc : Nat) (w : World) (hm : m ≤ 4096) :
    Calls Tryz.prog 84 #[.agg #[.int .i64 4, .int .i64 ln, .string s, .int .i64 k, .int .i64 n, .string t, vv, .slice sa m sc]] w (RolesOut w 4 m) := by
  obtain ⟨wa, hwa⟩ : ∃ wa, wa = w.alloc (.cells #[.int .i64 4, .int .i64 ln, .string s, .int .i64 k, .int .i64 n, .string t, vv, .slice sa m sc] 31) := ⟨_, rfl⟩
  have hb : Below w.heap.size w wa := by rw [hwa]; exact (Below.refl _ _).alloc (Nat.le_refl _) _
  have hN : NdB wa w.heap.size (.int .i64 4) (.int .i64 ln) (.string s) (.int .i64 k) (.int .i64 n) (.string t) vv (.slice sa m sc) := by rw [hwa]; exact NdB.new _ _ _ _ _ _ _ _ _
  have v0 := hN.c0; have v7 := hN.c7
  rw [hwa] at v0 v7
  have HB := Lib.hid hb
  have HWA := Lib.hid hwa
  clear hb hN hwa
  go_enter Tryz.func84, Tryz.ntmps84
  go_wp2_with fail
  rw [← HWA.out]
  refine (roll_c 0 1 wa (by decide) (by omega)).mono ?_
  rintro e w2 ⟨v, rfl, ho, hb2⟩
  have HO := Lib.hid ho
  have HB2 := Lib.hid (HB.out.trans (below_le' hb2 HB.out.size))
  clear ho hb2
  go_wp2_with fail
  go_ret2
  exact ⟨v, ret_tup (c := .nilIface) (by rw [show (1 : Int) = ((1 : Nat) : Int) from rfl, eq_nat]; rfl), by
    have h := own_lower HO.out HB.out.size
    have e : (rolesP 4 m).1 = List.replicate 1 0 := rfl
    rw [e, List.length_replicate]; exact h, HB2.out⟩

set_option maxRecDepth 100000 in
set_option maxHeartbeats 2000000 in
theorem roles_26 (ln : Int) (s : ByteArray) (k n : Int) (t : ByteArray) (vv : Value) (sa : Option Addr) (m sc : Nat) (w : World) (hm : m ≤ 4096) :
    Calls Tryz.prog 84 #[.agg #[.int .i64 26, .int .i64 ln, .string s, .int .i64 k, .int .i64 n, .string t, vv, .slice sa m sc]] w (RolesOut w 26 m) := by
  obtain ⟨wa, hwa⟩ : ∃ wa, wa = w.alloc (.cells #[.int .i64 26, .int .i64 ln, .string s, .int .i64 k, .int .i64 n, .string t, vv, .slice sa m sc] 31) := ⟨_, rfl⟩
  have hb : Below w.heap.size w wa := by rw [hwa]; exact (Below.refl _ _).alloc (Nat.le_refl _) _
  have hN : NdB wa w.heap.size (.int .i64 26) (.int .i64 ln) (.string s) (.int .i64 k) (.int .i64 n) (.string t) vv (.slice sa m sc) := by rw [hwa]; exact NdB.new _ _ _ _ _ _ _ _ _
  have v0 := hN.c0; have v7 := hN.c7
  rw [hwa] at v0 v7
  have HB := Lib.hid hb
  have HWA := Lib.hid hwa
  clear hb hN hwa
  go_enter Tryz.func84, Tryz.ntmps84
  go_wp2_with fail
  rw [← HWA.out]
  refine (roll_c 0 1 wa (by decide) (by omega)).mono ?_
  rintro e w2 ⟨v, rfl, ho, hb2⟩
  have HO := Lib.hid ho
  have HB2 := Lib.hid (HB.out.trans (below_le' hb2 HB.out.size))
  clear ho hb2
  go_wp2_with fail
  go_ret2
  exact ⟨v, ret_tup (c := .nilIface) (by rw [show (1 : Int) = ((1 : Nat) : Int) from rfl, eq_nat]; rfl), by
    have h := own_lower HO.out HB.out.size
    have e : (rolesP 26 m).1 = List.replicate 1 0 := rfl
    rw [e, List.length_replicate]; exact h, HB2.out⟩

set_option maxRecDepth 100000 in
set_option maxHeartbeats 2000000 in
theorem roles_40 (ln : Int) (s : ByteArray) (k n : Int) (t : ByteArray) (vv : Value) (sa : Option Addr) (m sc : Nat) (w : World) (hm : m ≤ 4096) :
    Calls Tryz.prog 84 #[.agg #[.int .i64 40, .int .i64 ln, .string s, .int .i64 k, .int .i64 n, .string t, vv, .slice sa m sc]] w (RolesOut w 40 m) := by
  obtain ⟨wa, hwa⟩ : ∃ wa, wa = w.alloc (.cells #[.int .i64 40, .int .i64 ln, .string s, .int .i64 k, .int .i64 n, .string t, vv, .slice sa m sc] 31) := ⟨_, rfl⟩
  have hb : Below w.heap.size w wa := by rw [hwa]; exact (Below.refl _ _).alloc (Nat.le_refl _) _
  have hN : NdB wa w.heap.size (.int .i64 40) (.int .i64 ln) (.string s) (.int .i64 k) (.int .i64 n) (.string t) vv (.slice sa m sc) := by rw [hwa]; exact NdB.new _ _ _ _ _ _ _ _ _
  have v0 := hN.c0; have v7 := hN.c7
  rw [hwa] at v0 v7
  have HB := Lib.hid hb
  have HWA := Lib.hid hwa
  clear hb hN hwa
  go_enter Tryz.func84, Tryz.ntmps84
  go_wp2_with fail
  rw [← HWA.out]
  refine (roll_c 0 1 wa (by decide) (by omega)).mono ?_
  rintro e w2 ⟨v, rfl, ho, hb2⟩
  have HO := Lib.hid ho
  have HB2 := Lib.hid (HB.out.trans (below_le' hb2 HB.out.size))
  clear ho hb2
  go_wp2_with fail
  go_ret2
  exact ⟨v, ret_tup (c := .nilIface) (by rw [show (1 : Int) = ((1 : Nat) : Int) from rfl, eq_nat]; rfl), by
    have h := own_lower HO.out HB.out.size
    have e : (rolesP 40 m).1 = List.replicate 1 0 := rfl
    rw [e, List.length_replicate]; exact h, HB2.out⟩

set_option maxRecDepth 100000 in
set_option maxHeartbeats 2000000 in
theorem roles_19 (ln : Int) (s : ByteArray) (k n : Int) (t : ByteArray) (vv : Value) (sa : Option Addr) (m sc : Nat) (w : World) (hm : m ≤ 4096) :
    Calls Tryz.prog 84 #[.agg #[.int .i64 19, .int .i64 ln, .string s, .int .i64 k, .int .i64 n, .string t, vv, .slice sa m sc]] w (RolesOut w 19 m) := by
  obtain ⟨wa, hwa⟩ : ∃ wa, wa = w.alloc (.cells #[.int .i64 19, .int .i64 ln, .string s, .int .i64 k, .int .i64 n, .string t, vv, .slice sa m sc] 31) := ⟨_, rfl⟩
  have hb : Below w.heap.size w wa := by rw [hwa]; exact (Below.refl _ _).alloc (Nat.le_refl _) _
  have hN : NdB wa w.heap.size (.int .i64 19) (.int .i64 ln) (.string s) (.int .i64 k) (.int .i64 n) (.string t) vv (.slice sa m sc) := by rw [hwa]; exact NdB.new _ _ _ _ _ _ _ _ _
  have v0 := hN.c0; have v7 := hN.c7
  rw [hwa] at v0 v7
  have HB := Lib.hid hb
  have HWA := Lib.hid hwa
  clear hb hN hwa
  go_enter Tryz.func84, Tryz.ntmps84
  go_wp2_with fail
  rw [← HWA.out]
  refine (roll_c 0 3 wa (by decide) (by omega)).mono ?_
  rintro e w2 ⟨v, rfl, ho, hb2⟩
  have HO := Lib.hid ho
  have HB2 := Lib.hid (HB.out.trans (below_le' hb2 HB.out.size))
  clear ho hb2
  go_wp2_with fail
  go_ret2
  exact ⟨v, ret_tup (c := .nilIface) (by rw [show (3 : Int) = ((3 : Nat) : Int) from rfl, eq_nat]; rfl), by
    have h := own_lower HO.out HB.out.size
    have e : (rolesP 19 m).1 = List.replicate 3 0 := rfl
    rw [e, List.length_replicate]; exact h, HB2.out⟩

set_option maxRecDepth 100000 in
set_option maxHeartbeats 2000000 in
theorem roles_21 (ln : Int) (s : ByteArray) (k n : Int) (t : ByteArray) (vv : Value) (sa : Option Addr) (m sc : Nat) (w : World) (hm : m ≤ 4096) :
    Calls Tryz.prog 84 #[.agg #[.int .i64 21, .int .i64 ln, .string s, .int .i64 k, .int .i64 n, .string t, vv, .slice sa m sc]] w (RolesOut w 21 m) := by
  obtain ⟨wa, hwa⟩ : ∃ wa, wa = w.alloc (.cells #[.int .i64 21, .int .i64 ln, .string s, .int .i64 k, .int .i64 n, .string t, vv, .slice sa m sc] 31) := ⟨_, rfl⟩
  have hb : Below w.heap.size w wa := by rw [hwa]; exact (Below.refl _ _).alloc (Nat.le_refl _) _
  have hN : NdB wa w.heap.size (.int .i64 21) (.int .i64 ln) (.string s) (.int .i64 k) (.int .i64 n) (.string t) vv (.slice sa m sc) := by rw [hwa]; exact NdB.new _ _ _ _ _ _ _ _ _
  have v0 := hN.c0; have v7 := hN.c7
  rw [hwa] at v0 v7
  have HB := Lib.hid hb
  have HWA := Lib.hid hwa
  clear hb hN hwa
  go_enter Tryz.func84, Tryz.ntmps84
  go_wp2_with fail
  rw [← HWA.out]
  refine (roll_c 0 3 wa (by decide) (by omega)).mono ?_
  rintro e w2 ⟨v, rfl, ho, hb2⟩
  have HO := Lib.hid ho
  have HB2 := Lib.hid (HB.out.trans (below_le' hb2 HB.out.size))
  clear ho hb2
  go_wp2_with fail
  go_ret2
  exact ⟨v, ret_tup (c := .nilIface) (by rw [show (3 : Int) = ((3 : Nat) : Int) from rfl, eq_nat]; rfl), by
    have h := own_lower HO.out HB.out.size
    have e : (rolesP 21 m).1 = List.replicate 3 0 := rfl
    rw [e, List.length_replicate]; exact h, HB2.out⟩

set_option maxRecDepth 100000 in
set_option maxHeartbeats 2000000 in
theorem roles_24 (ln : Int) (s : ByteArray) (k n : Int) (t : ByteArray) (vv : Value) (sa : Option Addr) (m sc : Nat) (w : World) (hm : m ≤ 4096) :
    Calls Tryz.prog 84 #[.agg #[.int .i64 24, .int .i64 ln, .string s, .int .i64 k, .int .i64 n, .string t, vv, .slice sa m sc]] w (RolesOut w 24 m) := by
  obtain ⟨wa, hwa⟩ : ∃ wa, wa = w.alloc (.cells #[.int .i64 24, .int .i64 ln, .string s, .int .i64 k, .int .i64 n, .string t, vv, .slice sa m sc] 31) := ⟨_, rfl⟩
  have hb : Below w.heap.size w wa := by rw [hwa]; exact (Below.refl _ _).alloc (Nat.le_refl _) _
  have hN : NdB wa w.heap.size (.int .i64 24) (.int .i64 ln) (.string s) (.int .i64 k) (.int .i64 n) (.string t) vv (.slice sa m sc) := by rw [hwa]; exact NdB.new _ _ _ _ _ _ _ _ _
  have v0 := hN.c0; have v7 := hN.c7
  rw [hwa] at v0 v7
  have HB := Lib.hid hb
  have HWA := Lib.hid hwa
  clear hb hN hwa
  go_enter Tryz.func84, Tryz.ntmps84
  go_wp2_with fail
  rw [← HWA.out]
  refine (roll_c 1 m wa (by decide) (by omega)).mono ?_
  rintro e w2 ⟨v, rfl, ho, hb2⟩
  have HO := Lib.hid ho
  have HB2 := Lib.hid (HB.out.trans (below_le' hb2 HB.out.size))
  clear ho hb2
  go_wp2_with fail
  go_ret2
  exact ⟨v, ret_tup (c := .nilIface) (by rfl), by
    have h := own_lower HO.out HB.out.size
    have e : (rolesP 24 m).1 = List.replicate m 1 := rfl
    rw [e, List.length_replicate]; exact h, HB2.out⟩

set_option maxRecDepth 100000 in
set_option maxHeartbeats 2000000 in
theorem roles_25 (ln : Int) (s : ByteArray) (k n : Int) (t : ByteArray) (vv : Value) (sa : Option Addr) (m sc : Nat) (w : World) (hm : m ≤ 4096) :
    Calls Tryz.prog 84 #[.agg #[.int .i64 25, .int .i64 ln, .string s, .int .i64 k, .int .i64 n, .string t, vv, .slice sa m sc]] w (RolesOut w 25 m) := by
  obtain ⟨wa, hwa⟩ : ∃ wa, wa = w.alloc (.cells #[.int .i64 25, .int .i64 ln, .string s, .int .i64 k, .int .i64 n, .string t, vv, .slice sa m sc] 31) := ⟨_, rfl⟩
  have hb : Below w.heap.size w wa := by rw [hwa]; exact (Below.refl _ _).alloc (Nat.le_refl _) _
  have hN : NdB wa w.heap.size (.int .i64 25) (.int .i64 ln) (.string s) (.int .i64 k) (.int .i64 n) (.string t) vv (.slice sa m sc) := by rw [hwa]; exact NdB.new _ _ _ _ _ _ _ _ _
  have v0 := hN.c0; have v7 := hN.c7
  rw [hwa] at v0 v7
  have HB := Lib.hid hb
  have HWA := Lib.hid hwa
  clear hb hN hwa
  go_enter Tryz.func84, Tryz.ntmps84
  go_wp2_with fail
  rw [← HWA.out]
  refine (roll_c 1 m wa (by decide) (by omega)).mono ?_
  rintro e w2 ⟨v, rfl, ho, hb2⟩
  have HO := Lib.hid ho
  have HB2 := Lib.hid (HB.out.trans (below_le' hb2 HB.out.size))
  clear ho hb2
  go_wp2_with fail
  go_ret2
  exact ⟨v, ret_tup (c := .nilIface) (by rfl), by
    have h := own_lower HO.out HB.out.size
    have e : (rolesP 25 m).1 = List.replicate m 1 := rfl
    rw [e, List.length_replicate]; exact h, HB2.out⟩

set_option maxRecDepth 100000 in
set_option maxHeartbeats 2000000 in
theorem roles_47 (ln : Int) (s : ByteArray) (k n : Int) (t : ByteArray) (vv : Value) (sa : Option Addr) (m sc : Nat) (w : World) (hm : m ≤ 4096) :
    Calls Tryz.prog 84 #[.agg #[.int .i64 47, .int .i64 ln, .string s, .int .i64 k, .int .i64 n, .string t, vv, .slice sa m sc]] w (RolesOut w 47 m) := by
  obtain ⟨wa, hwa⟩ : ∃ wa, wa = w.alloc (.cells #[.int .i64 47, .int .i64 ln, .string s, .int .i64 k, .int .i64 n, .string t, vv, .slice sa m sc] 31) := ⟨_, rfl⟩
  have hb : Below w.heap.size w wa := by rw [hwa]; exact (Below.refl _ _).alloc (Nat.le_refl _) _
  have hN : NdB wa w.heap.size (.int .i64 47) (.int .i64 ln) (.string s) (.int .i64 k) (.int .i64 n) (.string t) vv (.slice sa m sc) := by rw [hwa]; exact NdB.new _ _ _ _ _ _ _ _ _
  have v0 := hN.c0; have v7 := hN.c7
  rw [hwa] at v0 v7
  have HB := Lib.hid hb
  have HWA := Lib.hid hwa
  clear hb hN hwa
  go_enter Tryz.func84, Tryz.ntmps84
  go_wp2_with fail
  rw [← HWA.out]
  refine (roll_c 0 m wa (by decide) (by omega)).mono ?_
  rintro e w2 ⟨v, rfl, ho, hb2⟩
  have HO := Lib.hid ho
  have HB2 := Lib.hid (HB.out.trans (below_le' hb2 HB.out.size))
  clear ho hb2
  go_wp2_with fail
  go_ret2
  exact ⟨v, ret_tup (c := .nilIface) (by rw [show (1 : Int) = ((1 : Nat) : Int) from rfl, le_nat]; rfl), by
    have h := own_lower HO.out HB.out.size
    have e : (rolesP 47 m).1 = List.replicate m 0 := rfl
    rw [e, List.length_replicate]; exact h, HB2.out⟩

set_option maxRecDepth 100000 in
set_option maxHeartbeats 2000000 in
theorem roles_52 (ln : Int) (s : ByteArray) (k n : Int) (t : ByteArray) (vv : Value) (sa : Option Addr) (m sc : Nat) (w : World) (hm : m ≤ 4096) :
    Calls Tryz.prog 84 #[.agg #[.int .i64 52, .int .i64 ln, .string s, .int .i64 k, .int .i64 n, .string t, vv, .slice sa m sc]] w (RolesOut w 52 m) := by
  obtain ⟨wa, hwa⟩ : ∃ wa, wa = w.alloc (.cells #[.int .i64 52, .int .i64 ln, .string s, .int .i64 k, .int .i64 n, .string t, vv, .slice sa m sc] 31) := ⟨_, rfl⟩
  have hb : Below w.heap.size w wa := by rw [hwa]; exact (Below.refl _ _).alloc (Nat.le_refl _) _
  have hN : NdB wa w.heap.size (.int .i64 52) (.int .i64 ln) (.string s) (.int .i64 k) (.int .i64 n) (.string t) vv (.slice sa m sc) := by rw [hwa]; exact NdB.new _ _ _ _ _ _ _ _ _
  have v0 := hN.c0; have v7 := hN.c7
  rw [hwa] at v0 v7
  have HB := Lib.hid hb
  have HWA := Lib.hid hwa
  clear hb hN hwa
  go_enter Tryz.func84, Tryz.ntmps84
  go_wp2_with fail
  rw [← HWA.out]
  refine (roll_c 7 m wa (by decide) (by omega)).mono ?_
  rintro e w2 ⟨v, rfl, ho, hb2⟩
  have HO := Lib.hid ho
  have HB2 := Lib.hid (HB.out.trans (below_le' hb2 HB.out.size))
  clear ho hb2
  go_wp2_with fail
  go_ret2
  exact ⟨v, ret_tup (c := .nilIface) (by rfl), by
    have h := own_lower HO.out HB.out.size
    have e : (rolesP 52 m).1 = List.replicate m 7 := rfl
    rw [e, List.length_replicate]; exact h, HB2.out⟩
end Go.Proofs.YtjibjgokloondaaGreatDoor
namespace Go.Proofs.YtjibjgokloondaaGreatDoor

def nmCh (c : UInt8) : Bool := (decide (97 ≤ c) && decide (c ≤ 122)) || (decide (48 ≤ c) && decide (c ≤ 57)) || c == 95
/-- Is a text a name? -/
def nameB (s : ByteArray) : Bool :=
  decide (1 ≤ s.size) && decide (s.size ≤ 32) && !(decide (48 ≤ s.data.toList.getD 0 0) && decide (s.data.toList.getD 0 0 ≤ 57)) && s.data.toList.all nmCh && !keysL.contains s

def isExpr (op : Int) : Bool := decide (1 ≤ op) && decide (op ≤ 29) && op != 26
def standsP (op : Int) : Nat → Bool
  | 0 => isExpr op
  | 1 => isExpr op || op == 26
  | 2 => op == 2 || op == 22 || op == 20
  | 3 => op == 2
  | 4 => op == 2 || op == 26
  | 5 => op == 25
  | 6 => op == 52
  | 8 => op == 50
  | _ => decide (40 ≤ op) && decide (op ≤ 51) && op != 50
def namedP (op : Int) : Bool × Bool := if op = 2 ∨ op = 24 ∨ op = 42 ∨ op = 43 then (true, false) else if op = 50 then (true, true) else (false, false)
def loopsP (op : Int) : Bool := op == 42 || op == 43 || op == 44

/-- What is amiss with what a node itself has: 0 nothing, 1 its shape, 2 its name. -/
def ownN (op : Int) (s : ByteArray) (k n : Int) (t : ByteArray) (v : VL) (m : Nat) (role : Nat) (loop : Bool) : Nat :=
  let fair := standsP op role && (loop || (op != 45 && op != 46)) &&
    (if op = 1 then k != 4 && (walk1 k n t v 1 4096).1 == 0 && (k != 0 || n != -9223372036854775808) else k == 0 && n == 0 && t.size == 0 && v.len == 0)
  if !fair || !(rolesP op m).2 || (!(namedP op).1 && s.size != 0) then 1
  else if (namedP op).1 && !nameB s && !((namedP op).2 && s.size == 0) then 2
  else 0
/-- The role of the j-th of what a node has, and whether it stands in a loop. -/
def subRole (op : Int) (m : Nat) (role : Nat) (loop : Bool) (j : Nat) : Nat × Bool :=
  let r := if role = 5 then 0 else if role = 2 ∧ op = 20 ∧ j = 0 then 2 else if role = 4 ∧ op = 26 then 3 else (rolesP op m).1.getD j 0
  (r, (loop && op != 48) || (loopsP op && r == 6))
/-- The first that is amiss: its line, and what. -/
def walkN : NL → (Nat → Nat × Bool) → Nat → Option (Int × Nat)
  | .nil, _, _ => none
  | .cons op ln s k n t v sub r, f, i =>
    if ownN op s k n t v sub.len (f i).1 (f i).2 ≠ 0 then some (ln, ownN op s k n t v sub.len (f i).1 (f i).2)
    else match walkN sub (subRole op sub.len (f i).1 (f i).2) 0 with
      | some e => some e
      | none => walkN r f (i + 1)
def rightN (l : NL) (role : Nat) : Bool := decide (l.tot ≤ 4096) && decide (l.deep ≤ 40) && (walkN l (fun _ => (role, false)) 0).isNone
end Go.Proofs.YtjibjgokloondaaGreatDoor
namespace Go.Proofs.YtjibjgokloondaaGreatDoor
open Go.RowKit Go.Lib
set_option linter.unusedVariables false
theorem beq_no {a b : Int} (h : a ≠ b) : (a == b) = false := beq_eq_false_iff_ne.2 h
theorem bne_yes {a b : Int} (h : a ≠ b) : (a != b) = true := bne_iff_ne.2 h

set_option maxHeartbeats 1000000 in
theorem named_c (op : Int) (w : World) : Calls Tryz.prog 99 #[.int .i64 op] w fun e w' => e = .returned (.tuple #[.bool (namedP op).1, .bool (namedP op).2]) ∧ w = w' := by
  by_cases h : op = 2 ∨ op = 24 ∨ op = 42 ∨ op = 43 ∨ op = 50
  · rcases h with rfl | rfl | rfl | rfl | rfl
    all_goals
      go_enter Tryz.func99, Tryz.ntmps99
      go_wp2_with fail
      go_ret2
      exact ⟨rfl, rfl⟩
  · have n1 := beq_no (show op ≠ 2 by omega)
    have n2 := beq_no (show op ≠ 24 by omega)
    have n3 := beq_no (show op ≠ 42 by omega)
    have n4 := beq_no (show op ≠ 43 by omega)
    have n5 := beq_no (show op ≠ 50 by omega)
    have HN := Lib.hid (show namedP op = (false, false) by unfold namedP; rw [if_neg (by omega), if_neg (by omega)])
    clear h
    go_enter Tryz.func99, Tryz.ntmps99
    go_wp2_with fail
    go_ret2
    exact ⟨by rw [HN.out]; rfl, rfl⟩

set_option maxHeartbeats 1000000 in
theorem loops_c (op : Int) (w : World) : Calls Tryz.prog 85 #[.int .i64 op] w fun e w' => e = .returned (.bool (loopsP op)) ∧ w = w' := by
  by_cases h : op = 42 ∨ op = 43 ∨ op = 44
  · rcases h with rfl | rfl | rfl
    all_goals
      go_enter Tryz.func85, Tryz.ntmps85
      go_wp2_with fail
      go_ret
      exact ⟨rfl, rfl⟩
  · have n1 := beq_no (show op ≠ 42 by omega)
    have n2 := beq_no (show op ≠ 43 by omega)
    have n3 := beq_no (show op ≠ 44 by omega)
    have HN := Lib.hid (show loopsP op = false by unfold loopsP; rw [n1, n2, n3]; rfl)
    clear h
    go_enter Tryz.func85, Tryz.ntmps85
    go_wp2_with fail
    go_ret
    exact ⟨ret_val (by rw [HN.out]; rfl), rfl⟩
end Go.Proofs.YtjibjgokloondaaGreatDoor
