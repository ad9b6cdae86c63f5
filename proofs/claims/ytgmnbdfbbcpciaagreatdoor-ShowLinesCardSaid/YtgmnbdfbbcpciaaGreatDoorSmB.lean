/- Contracts of the functions that the statement reaches, and the plain mathematics beneath: several texts joined. -/
import Derived.Test.YtgmnbdfbbcpciaaGreatDoorSmA
import Derived.Laws.ResultCell
import Derived.Laws.AppendOwnNone
import Derived.Maps.AppendAt
namespace Go.Proofs.YtgmnbdfbbcpciaaGreatDoor
open Go.RowKit Go.Lib
set_option linter.unusedVariables false

/-- A struct of four cells and an error handed back. -/
theorem ret_cell4_tmp {fn : Func} {p u : Tmp} {Q : Ending → World → Prop} {act : Act} {w : World} (h : fn.results = #[.cell p 31, .tmp u]) (g : Nat) (hp : act.tmps.getD p undef = .pointer (some ⟨g, 0, none⟩)) (hd : act.defers = [])
    {a b c d : Value} (hS : StB w g a b c d) (hQ : Q (.returned (.tuple #[.agg #[a, b, c, d], act.tmps.getD u undef])) w) : bodyPost Tryz.prog fn Q .ret act w := by
  refine bodyPost_ret (v := .tuple #[.agg #[a, b, c, d], act.tmps.getD u undef]) ?_ hd hQ
  have c0 := hS.c0
  have c1 := hS.c1
  have c2 := hS.c2
  have c3 := hS.c3
  have hp' : (act.tmps[p]?).getD undef = .pointer (some ⟨g, 0, none⟩) := by simpa using hp
  simp [results, h, hp', go_sem, c0, c1, c2, c3]

/-- What the reader makes of a text. -/
def rdV (s : ByteArray) : Nat × Bool × VL := valSp s (2 * s.size + 2) 0
/-- It stops at a sign. -/
def rdBad (s : ByteArray) : Prop := ¬ ((rdV s).2.1 = true ∧ s.size ≤ (rdV s).1)

/-- What a call of Read shows. -/
def RdOut (ea : Nat → Addr) (s : ByteArray) (w : World) (e : Ending) (w' : World) : Prop :=
  Below w.heap.size w w' ∧
  ((rdBad s ∧ ∃ A, w.heap.size ≤ A ∧ w'.heap[A]? = some (.cells #[.int .i64 (rdV s).1, errV ea 111] 75 (0, 0)) ∧
      e = .returned (.tuple #[.agg #[.int .i64 0, .int .i64 0, .string ⟨#[]⟩, .slice none 0 0], .iface 73 (.pointer (some ⟨A, 0, none⟩))])) ∨
   (¬ rdBad s ∧ ∃ (k n : Int) (t : ByteArray) (sub : VL), (rdV s).2.2 = val1 k n t sub ∧
      (((walk1 k n t sub 1 4096).1 ≠ 0 ∧ e = .returned (.tuple #[.agg #[.int .i64 0, .int .i64 0, .string ⟨#[]⟩, .slice none 0 0], errV ea (walk1 k n t sub 1 4096).1])) ∨
       ((walk1 k n t sub 1 4096).1 = 0 ∧ ∃ (sa : Option Addr) (sc : Nat), sub.len ≤ sc ∧ RpL w' (fun b => w.heap.size ≤ b ∧ b < w'.heap.size) sub sa ∧
          e = .returned (.tuple #[.agg #[.int .i64 k, .int .i64 n, .string t, .slice sa sub.len sc], .nilIface])))))

theorem RdBad.a {w w5 : World} (hb : Below w.heap.size w w5) (hz : w.heap.size < w5.heap.size) {a b c d : Value} (H : StB w5 w.heap.size a b c d) (o : Obj) (a' b' c' d' : Value) :
    let W' := (((((w5.setCell ⟨w.heap.size, 0, none⟩ a').setCell ⟨w.heap.size, 1, none⟩ b').setCell ⟨w.heap.size, 2, none⟩ c').setCell ⟨w.heap.size, 3, none⟩ d').alloc o).drew
    StB W' w.heap.size a' b' c' d' ∧ Below w.heap.size w W' ∧ W'.heap[w5.heap.size]? = some o := by
  refine ⟨(H.set4 a' b' c' d').alloc o, ?_, ?_⟩
  · refine Below.drew (Below.alloc (Below.setCell (Below.setCell (Below.setCell (Below.setCell hb ?_ _) ?_ _) ?_ _) ?_ _) ?_ _)
    · exact Nat.le_refl _
    · exact Nat.le_refl _
    · exact Nat.le_refl _
    · exact Nat.le_refl _
    · rw [size_set4]; omega
  · have h : ∀ W : World, (W.alloc o).drew.heap[W.heap.size]? = some o := fun W => by
      show (W.alloc o).heap[W.heap.size]? = some o
      unfold World.alloc; simp
    have := h ((((w5.setCell ⟨w.heap.size, 0, none⟩ a').setCell ⟨w.heap.size, 1, none⟩ b').setCell ⟨w.heap.size, 2, none⟩ c').setCell ⟨w.heap.size, 3, none⟩ d')
    rw [size_set4] at this; exact this
theorem RdBad.b {w w5 : World} (hb : Below w.heap.size w w5) (hz : w.heap.size < w5.heap.size) {a b c d : Value} (H : StB w5 w.heap.size a b c d) (o : Obj) (a' b' c' d' : Value) :
    let W' := (((((w5.alloc o).setCell ⟨w.heap.size, 0, none⟩ a').setCell ⟨w.heap.size, 1, none⟩ b').setCell ⟨w.heap.size, 2, none⟩ c').setCell ⟨w.heap.size, 3, none⟩ d').drew
    StB W' w.heap.size a' b' c' d' ∧ Below w.heap.size w W' ∧ W'.heap[w5.heap.size]? = some o := by
  refine ⟨(H.alloc o).set4 a' b' c' d', ?_, ?_⟩
  · refine Below.drew (Below.setCell (Below.setCell (Below.setCell (Below.setCell (Below.alloc hb (by omega) _) ?_ _) ?_ _) ?_ _) ?_ _)
    · exact Nat.le_refl _
    · exact Nat.le_refl _
    · exact Nat.le_refl _
    · exact Nat.le_refl _
  · show ((((((w5.alloc o).setCell ⟨w.heap.size, 0, none⟩ a').setCell ⟨w.heap.size, 1, none⟩ b').setCell ⟨w.heap.size, 2, none⟩ c').setCell ⟨w.heap.size, 3, none⟩ d').heap[w5.heap.size]?) = _
    rw [heap_set4 _ _ _ _ _ _ _ (by omega)]; unfold World.alloc; simp
theorem RdOut.bad {ea : Nat → Addr} {s : ByteArray} {w W' : World} {at_ A : Nat} {ok : Bool} {v : VL} (hq : (at_, ok, v) = rdV s) (hbad : ¬ (ok = true ∧ s.size ≤ at_)) (hb : Below w.heap.size w W') (hA : w.heap.size ≤ A)
    (h : W'.heap[A]? = some (.cells #[.int .i64 at_, .iface 148 (.pointer (some (ea 111)))] 75 (0, 0))) :
    RdOut ea s w (.returned (.tuple #[.agg #[.int .i64 0, .int .i64 0, .string ⟨#[]⟩, .slice none 0 0], .iface 73 (.pointer (some ⟨A, 0, none⟩))])) W' := by
  refine ⟨hb, .inl ⟨by unfold rdBad; rw [← hq]; exact hbad, A, hA, ?_, rfl⟩⟩
  rw [← hq]; exact h

theorem StB.below {w w' : World} {g : Nat} {a b c d : Value} {B : Nat} (h : StB w g a b c d) (hb : Below B w w') (hB : g < B) : StB w' g a b c d := (hb.block g hB).trans h
theorem below_set4 {w w' : World} {B : Nat} (h : Below B w w') {g : Nat} (hg : B ≤ g) (a b c d : Value) :
    Below B w ((((w'.setCell ⟨g, 0, none⟩ a).setCell ⟨g, 1, none⟩ b).setCell ⟨g, 2, none⟩ c).setCell ⟨g, 3, none⟩ d) :=
  Below.setCell (Below.setCell (Below.setCell (Below.setCell h hg _) hg _) hg _) hg _
theorem below_le' {B B' : Nat} {w w' : World} (h : Below B w w') (hb : B' ≤ B) : Below B' w w' := ⟨h.os, h.tape, h.output, h.size, fun k hk => h.block k (by omega)⟩

end Go.Proofs.YtgmnbdfbbcpciaaGreatDoor
namespace Go.Proofs.YtgmnbdfbbcpciaaGreatDoor
open Go.RowKit Go.Lib
set_option linter.unusedVariables false

/-- A node in a block of its own. -/
def NdB (w : World) (g : Nat) (a b c d e f h i : Value) : Prop := w.heap[g]? = some (.cells #[a, b, c, d, e, f, h, i] 33 (0, 0))
section
variable {w w' : World} {g : Nat} {a b c d e f h i : Value}
theorem NdB.lt (H : NdB w g a b c d e f h i) : g < w.heap.size := by
  rcases Nat.lt_or_ge g w.heap.size with hlt | hge
  · exact hlt
  · unfold NdB at H; rw [Array.getElem?_eq_none hge] at H; cases H
theorem NdB.new (w : World) (a b c d e f h i : Value) : NdB (w.alloc (.cells #[a, b, c, d, e, f, h, i] 33)) w.heap.size a b c d e f h i := heap_alloc_new w _
theorem NdB.c0 (H : NdB w g a b c d e f h i) : w.cell? ⟨g, 0, none⟩ = some a := cell_of_row w g 0 _ _ _ H
theorem NdB.c1 (H : NdB w g a b c d e f h i) : w.cell? ⟨g, 1, none⟩ = some b := cell_of_row w g 1 _ _ _ H
theorem NdB.c2 (H : NdB w g a b c d e f h i) : w.cell? ⟨g, 2, none⟩ = some c := cell_of_row w g 2 _ _ _ H
theorem NdB.c3 (H : NdB w g a b c d e f h i) : w.cell? ⟨g, 3, none⟩ = some d := cell_of_row w g 3 _ _ _ H
theorem NdB.c4 (H : NdB w g a b c d e f h i) : w.cell? ⟨g, 4, none⟩ = some e := cell_of_row w g 4 _ _ _ H
theorem NdB.c5 (H : NdB w g a b c d e f h i) : w.cell? ⟨g, 5, none⟩ = some f := cell_of_row w g 5 _ _ _ H
theorem NdB.c6 (H : NdB w g a b c d e f h i) : w.cell? ⟨g, 6, none⟩ = some h := cell_of_row w g 6 _ _ _ H
theorem NdB.c7 (H : NdB w g a b c d e f h i) : w.cell? ⟨g, 7, none⟩ = some i := cell_of_row w g 7 _ _ _ H
theorem NdB.fr (H : NdB w g a b c d e f h i) (k : Nat) : w.frozen? ⟨g, k, none⟩ = false := by unfold NdB at H; simp [World.frozen?, H]
theorem NdB.below {B : Nat} (H : NdB w g a b c d e f h i) (hb : Below B w w') (hB : g < B) : NdB w' g a b c d e f h i := (hb.block g hB).trans H
theorem NdB.below' (H : NdB w g a b c d e f h i) (hb : Below w.heap.size w w') : NdB w' g a b c d e f h i := (hb.block g H.lt).trans H
theorem NdB.alloc (H : NdB w g a b c d e f h i) (o : Obj) : NdB (w.alloc o) g a b c d e f h i := (Below.heap_alloc w o g H.lt).trans H
end

/-- The i-th node of a list in memory. -/
theorem RpN.nth {w : World} {S : Nat → Prop} {l : NL} {A : Option Addr} {i : Nat} (h : RpN w S l A) (hi : i < l.len) :
    ∃ (b o : Nat) (op ln : Int) (s : ByteArray) (k n : Int) (t : ByteArray) (v : VL) (sub : NL) (va : Option Addr) (vc : Nat) (sa : Option Addr) (sc : Nat),
      A = some ⟨b, o, none⟩ ∧ S b ∧ l.drop i = .cons op ln s k n t v sub (l.drop (i + 1)) ∧
      w.cell? ⟨b, o + i * 8, none⟩ = some (.int .i64 op) ∧ w.cell? ⟨b, o + i * 8 + 1, none⟩ = some (.int .i64 ln) ∧ w.cell? ⟨b, o + i * 8 + 2, none⟩ = some (.string s) ∧
      w.cell? ⟨b, o + i * 8 + 3, none⟩ = some (.int .i64 k) ∧ w.cell? ⟨b, o + i * 8 + 4, none⟩ = some (.int .i64 n) ∧ w.cell? ⟨b, o + i * 8 + 5, none⟩ = some (.string t) ∧
      w.cell? ⟨b, o + i * 8 + 6, none⟩ = some (.slice va v.len vc) ∧ v.len ≤ vc ∧ RpL w S v va ∧
      w.cell? ⟨b, o + i * 8 + 7, none⟩ = some (.slice sa sub.len sc) ∧ sub.len ≤ sc ∧ RpN w S sub sa := by
  obtain ⟨b, o, hA⟩ : ∃ b o, A = some ⟨b, o, none⟩ := by
    cases l with
    | nil => simp [NL.len] at hi
    | cons => obtain ⟨b, o, _, _, _, _, e, _⟩ := h; exact ⟨b, o, e⟩
  subst hA
  obtain ⟨op, ln, s, k, n, t, v, sub, hd⟩ := NL.drop_of_lt i l hi
  have hdr := RpN.drop i l b o h
  rw [hd] at hdr
  obtain ⟨b', o', va, vc, sa, sc, e, hS, c0, c1, c2, c3, c4, c5, c6, h6, hv, c7, h7, hs, _⟩ := hdr
  injection e with e
  injection e with e1 e2
  subst e1
  subst e2
  rw [Nat.mul_comm 8 i] at c0 c1 c2 c3 c4 c5 c6 c7
  exact ⟨b, o, op, ln, s, k, n, t, v, sub, va, vc, sa, sc, rfl, hS, hd, c0, c1, c2, c3, c4, c5, c6, h6, hv, c7, h7, hs⟩

namespace NL
theorem fit_drop : ∀ (i : Nat) (l : NL), l.fit → (l.drop i).fit
  | 0, l, h => by rw [NL.drop]; exact h
  | i + 1, .nil, h => h
  | i + 1, .cons _ _ _ _ _ _ _ _ r, h => fit_drop i r h.2.2.2.2.2.2
theorem tot_drop : ∀ (i : Nat) (l : NL), (l.drop i).tot ≤ l.tot
  | 0, l => by rw [NL.drop]; exact Nat.le_refl _
  | i + 1, .nil => Nat.le_refl _
  | i + 1, .cons _ _ _ _ _ _ _ sub r => by have := tot_drop i r; simp only [NL.drop, NL.tot]; omega
theorem deep_tot : ∀ l : NL, l.deep ≤ l.tot
  | .nil => Nat.le_refl _
  | .cons _ _ _ _ _ _ _ sub r => by
    have := deep_tot sub; have := deep_tot r
    simp only [NL.deep, NL.tot]
    exact Nat.max_le.2 ⟨by omega, by omega⟩
end NL

/-- How many nodes there are, up to one more than may be. -/
def countN : NL → Int → Int
  | .nil, n => n
  | .cons _ _ _ _ _ _ _ sub r, n => if 4096 < n + 1 then n + 1 else if 4096 < countN sub (n + 1) then countN sub (n + 1) else countN r (countN sub (n + 1))
theorem countN_eq : ∀ (l : NL) (n : Int), 0 ≤ n → n ≤ 4096 → countN l n = if n + l.tot ≤ 4096 then n + l.tot else 4097
  | .nil, n, h0, h1 => by
    rw [countN, if_pos (by simp only [NL.tot]; omega)]; simp [NL.tot]
  | .cons op ln s k m t v sub r, n, h0, h1 => by
    rw [countN]
    obtain ⟨T, hT⟩ : ∃ T, T = (NL.cons op ln s k m t v sub r).tot := ⟨_, rfl⟩
    rw [← hT]
    simp only [NL.tot] at hT
    by_cases h : 4096 < n + 1
    · rw [if_pos h, if_neg (by omega)]; omega
    · rw [if_neg h]
      have e1 := countN_eq sub (n + 1) (by omega) (by omega)
      by_cases h2 : n + 1 + sub.tot ≤ 4096
      · rw [if_pos h2] at e1
        rw [e1, if_neg (by omega), countN_eq r _ (by omega) h2]
        by_cases h3 : n + 1 + sub.tot + r.tot ≤ 4096
        · rw [if_pos h3, if_pos (by omega)]; omega
        · rw [if_neg h3, if_neg (by omega)]
      · rw [if_neg h2] at e1
        rw [e1, if_pos (by omega), if_neg (by omega)]
theorem countN_range (l : NL) (n : Int) (h0 : 0 ≤ n) (h1 : n ≤ 4096) : 0 ≤ countN l n ∧ countN l n ≤ 4097 := by
  rw [countN_eq l n h0 h1]; split <;> omega
end Go.Proofs.YtgmnbdfbbcpciaaGreatDoor
namespace Go.Proofs.YtgmnbdfbbcpciaaGreatDoor

/-- What has to stand in a node (0 an expression, 1 an item, 2 what is set, 3 a Var, 4 the last Var, 5 codes, 6 a Block, 7 a statement, 8 an Except), and whether it has what it has to have. -/
def rolesP (op : Int) (n : Nat) : List Nat × Bool :=
  if op = 1 ∨ op = 2 ∨ op = 45 ∨ op = 46 then ([], n == 0)
  else if op = 3 ∨ op = 4 ∨ op = 26 ∨ op = 40 then ([0], n == 1)
  else if (5 ≤ op ∧ op ≤ 18) ∨ op = 20 ∨ op = 22 then ([0, 0], n == 2)
  else if op = 19 ∨ op = 21 then ([0, 0, 0], n == 3)
  else if op = 23 then ([0, 0] ++ List.replicate (n - 2) 1, decide (2 ≤ n))
  else if op = 24 ∨ op = 25 then (List.replicate n 1, true)
  else if op = 27 then ([2, 0], n == 2)
  else if op = 28 then ((List.replicate (n - 2) 3 ++ (if 1 < n then [4] else [])) ++ [0], decide (2 ≤ n))
  else if op = 29 then ([0, 5, 0].take (Nat.min n 3), n == 2 || n == 3)
  else if op = 41 then ((List.range n).map (fun i => if n % 2 = 1 ∧ i = n - 1 then 6 else if i % 2 = 0 then 0 else 6), decide (2 ≤ n))
  else if op = 42 ∨ op = 44 ∨ op = 48 then ([0, 6], n == 2)
  else if op = 43 then ([0, 0, 6], n == 3)
  else if op = 47 then (List.replicate n 0, decide (n ≤ 1))
  else if op = 49 then ([6] ++ List.replicate (n - 1) 8, decide (2 ≤ n))
  else if op = 50 then ([5, 6], n == 2)
  else if op = 51 then ([6, 6], n == 2)
  else if op = 52 then (List.replicate n 7, true)
  else ([], false)
end Go.Proofs.YtgmnbdfbbcpciaaGreatDoor
namespace Go.Proofs.YtgmnbdfbbcpciaaGreatDoor
open Go.RowKit Go.Lib
set_option linter.unusedVariables false

/-- Numbers in cells. -/
def ints (l : List Nat) : List Value := l.map fun (r : Nat) => Value.int .i64 (r : Int)
theorem ints_len (l : List Nat) : (ints l).length = l.length := List.length_map ..
theorem ints_app (a b : List Nat) : ints (a ++ b) = ints a ++ ints b := List.map_append
theorem int_info : (Tryz.prog.info? 3).map (fun i => (i.zero, i.size, i.bytes)) = some (some (.int .i64 0), 1, 8) := by kernel_rfl
theorem own_belowN {W W' : World} {base e size n : Nat} {v : Value} {xs : List Value} (h : W.ownsRow base e size v n xs) (hb : Below W.heap.size W W') : W'.ownsRow base e size v n xs := by
  refine ⟨h.1, ?_⟩
  rcases h.2 with h0 | ⟨g, cap, cur, hv, hb1, hh, r⟩
  · exact .inl h0
  · have hlt : g < W.heap.size := by
      rcases Nat.lt_or_ge g W.heap.size with hlt | hge
      · exact hlt
      · rw [Array.getElem?_eq_none hge] at hh; cases hh
    exact .inr ⟨g, cap, cur, hv, hb1, (hb.block g hlt).trans hh, r⟩
theorem own_geN {W : World} {base e size n : Nat} {v : Value} {xs : List Value} (h : W.ownsRow base e size v n xs) (k : Nat) (hk : v.ownBlock = some k) : base ≤ k := (h.lt k hk).1
theorem grown_belowN {B : Nat} {w w1 w2 : World} {row : Option Nat} (h : Below B w w1) (hz : B ≤ w1.heap.size) (hg : w1.grownBy w2 row) (hr : ∀ k, row = some k → B ≤ k) : Below B w w2 :=
  ⟨hg.os.trans h.os, hg.tape.trans h.tape, hg.output.trans h.output, Nat.le_trans h.size hg.size,
   fun k hk => (hg.block k (by omega) (fun e => by have := hr k e.symm; omega)).trans (h.block k hk)⟩
theorem info_partsN {P : Program} {t : TypeId} {a : Option Value} {b c : Nat} (h : (P.info? t).map (fun i => (i.zero, i.size, i.bytes)) = some (a, b, c)) : ∃ i, P.info? t = some i ∧ i.zero = a ∧ i.size = b ∧ i.bytes = c := by
  cases hq : P.info? t with
  | none => rw [hq] at h; cases h
  | some i => rw [hq] at h; injection h with h; injection h with h1 h; injection h with h2 h3; exact ⟨i, rfl, h1, h2, h3⟩

set_option maxRecDepth 100000 in
set_option maxHeartbeats 1000000 in
theorem all_c (r k : Nat) (w : World) (hr : r ≤ 10) (hk : k ≤ 4200) :
    Calls Tryz.prog 61 #[.int .i64 (r : Int), .int .i64 (k : Int)] w fun e w' => ∃ v, e = .returned v ∧ w'.ownsRow w.heap.size 3 1 v k (ints (List.replicate k r)) ∧ Below w.heap.size w w' := by
  obtain ⟨i0, hi0, hz0, hz1, hz2⟩ := info_partsN int_info
  go_enter Tryz.func61, Tryz.ntmps61
  go_wp2_with fail
  go_loopg [5, 7] k (fun kk ov v wr => ∃ (bv : Value) (i : Nat), bv = ov ∧ v = .int .i64 i ∧ i + kk = k ∧ wr.ownsRow w.heap.size 3 1 bv i (ints (List.replicate i r)) ∧ Below w.heap.size w wr)
  case atStart => exact ⟨.slice none 0 0, 0, rfl, rfl, by omega, World.ownsRow_nil _ _ _ _, Below.refl _ _⟩
  case round =>
    obtain ⟨bv, i, rfl, rfl, hik, hrow, hbr⟩ := hrel
    have hrz := hbr.size
    by_cases hi : i < k
    · obtain ⟨g, rfl⟩ : ∃ g, gk = g + 1 := ⟨gk - 1, by omega⟩
      have HROW := Lib.hid hrow
      have HBR := Lib.hid hbr
      clear hrow hbr
      go_wp2_with (at_builtin; refine wpList_append_own _ rfl (.tmp 9) (.tmp 11) 76 rfl w.heap.size 3 i0 (.int .i64 0) 1 8 Tryz.underlying76 hi0 hz0 hz1 hz2 rfl (by decide) bv i (ints (List.replicate i r)) rfl (own_belowN HROW.out ((Below.refl _ _).alloc (Nat.le_refl _) _)) ⟨wr.heap.size, 0, none⟩ 1 1 [.int .i64 (r : Int)] rfl rfl ?c1 ?c2 ?c3 ?c4 ?c5 ?c6
                   case c1 => exact cell_one_new _ _ _
                   case c2 => intro u hu; simp at hu; subst hu; rfl
                   case c3 => unfold maxLen; omega
                   case c4 => omega
                   case c5 => simp; omega
                   intro v' w11 hown' hgrow _
                   have HB11 := Lib.hid (grown_belowN (HBR.out.alloc HBR.out.size _) (by simp; omega) hgrow (fun k hk => own_geN HROW.out k hk))
                   have HO11 := Lib.hid hown'
                   clear hown' hgrow)
      go_roundg g
      case measure => omega
      case rel => exact ⟨v', i + 1, rfl, by go_num, by omega, by
        have h := HO11.out
        have e : ints (List.replicate (i + 1) r) = ints (List.replicate i r) ++ [.int .i64 (r : Int)] := by rw [List.replicate_succ', ints_app]; rfl
        rw [e]; exact h, HB11.out⟩
    · obtain rfl : i = k := by omega
      have HROW := Lib.hid hrow
      have HBR := Lib.hid hbr
      clear hrow hbr
      go_wp2_with fail
      go_ret
      exact ⟨bv, rfl, HROW.out, HBR.out⟩
end Go.Proofs.YtgmnbdfbbcpciaaGreatDoor
namespace Go.Proofs.YtgmnbdfbbcpciaaGreatDoor
open Go.RowKit Go.Lib
set_option linter.unusedVariables false

/-- What a call of roles leaves. -/
def RolesOut (w : World) (op : Int) (n : Nat) (e : Ending) (w' : World) : Prop :=
  ∃ v, e = .returned (.tuple #[v, .bool (rolesP op n).2]) ∧ w'.ownsRow w.heap.size 3 1 v (rolesP op n).1.length (ints (rolesP op n).1) ∧ Below w.heap.size w w'
theorem ret_tup {a c : Value} {b b' : Bool} (h : b = b') : Ending.returned (.tuple #[a, .bool b]) = .returned (.tuple #[a, .bool b']) := by rw [h]
theorem eq_nat (n m : Nat) : ((n : Int) == (m : Int)) = (n == m) := by
  rw [Bool.eq_iff_iff, beq_iff_eq, beq_iff_eq]; omega
theorem le_nat (n m : Nat) : decide ((m : Int) ≤ (n : Int)) = decide (m ≤ n) := by
  rw [Bool.eq_iff_iff]; simp
theorem own_lit (w : World) {cs : Array Value} {n : Nat} {base : Nat} (hb : base ≤ w.heap.size) (hm : n ≤ maxLen) (hs : cs.size = n * 1) : (w.alloc (.cells cs 3)).ownsRow base 3 1 (.slice (some ⟨w.heap.size, 0, none⟩) n n) n cs.toList := World.ownsRow_lit w cs n hb hm hs

theorem own_lower {w : World} {base base' e size n : Nat} {v : Value} {xs : List Value} (h : w.ownsRow base e size v n xs) (hb : base' ≤ base) : w.ownsRow base' e size v n xs := by
  refine ⟨h.1, ?_⟩
  rcases h.2 with h0 | ⟨g, cap, cur, hv, hb1, r⟩
  · exact .inl h0
  · exact .inr ⟨g, cap, cur, hv, Nat.le_trans hb hb1, r⟩

set_option maxRecDepth 100000 in
set_option maxHeartbeats 2000000 in
theorem roles_1 (ln : Int) (s : ByteArray) (k n : Int) (t : ByteArray) (vv : Value) (sa : Option Addr) (m sc : Nat) (w : World) (hm : m ≤ 4096) :
    Calls Tryz.prog 45 #[.agg #[.int .i64 1, .int .i64 ln, .string s, .int .i64 k, .int .i64 n, .string t, vv, .slice sa m sc]] w (RolesOut w 1 m) := by
  obtain ⟨wa, hwa⟩ : ∃ wa, wa = w.alloc (.cells #[.int .i64 1, .int .i64 ln, .string s, .int .i64 k, .int .i64 n, .string t, vv, .slice sa m sc] 33) := ⟨_, rfl⟩
  have hb : Below w.heap.size w wa := by rw [hwa]; exact (Below.refl _ _).alloc (Nat.le_refl _) _
  have hN : NdB wa w.heap.size (.int .i64 1) (.int .i64 ln) (.string s) (.int .i64 k) (.int .i64 n) (.string t) vv (.slice sa m sc) := by rw [hwa]; exact NdB.new _ _ _ _ _ _ _ _ _
  have v0 := hN.c0; have v7 := hN.c7
  rw [hwa] at v0 v7
  have HB := Lib.hid hb
  have HWA := Lib.hid hwa
  clear hb hN hwa
  go_enter Tryz.func45, Tryz.ntmps45
  go_wp2_with fail
  rw [← HWA.out]
  go_ret2
  exact ⟨_, ret_tup (c := .nilIface) (by rw [show (0 : Int) = ((0 : Nat) : Int) from rfl, eq_nat]; rfl), World.ownsRow_nil _ _ _ _, HB.out⟩

set_option maxRecDepth 100000 in
set_option maxHeartbeats 2000000 in
theorem roles_2 (ln : Int) (s : ByteArray) (k n : Int) (t : ByteArray) (vv : Value) (sa : Option Addr) (m sc : Nat) (w : World) (hm : m ≤ 4096) :
    Calls Tryz.prog 45 #[.agg #[.int .i64 2, .int .i64 ln, .string s, .int .i64 k, .int .i64 n, .string t, vv, .slice sa m sc]] w (RolesOut w 2 m) := by
  obtain ⟨wa, hwa⟩ : ∃ wa, wa = w.alloc (.cells #[.int .i64 2, .int .i64 ln, .string s, .int .i64 k, .int .i64 n, .string t, vv, .slice sa m sc] 33) := ⟨_, rfl⟩
  have hb : Below w.heap.size w wa := by rw [hwa]; exact (Below.refl _ _).alloc (Nat.le_refl _) _
  have hN : NdB wa w.heap.size (.int .i64 2) (.int .i64 ln) (.string s) (.int .i64 k) (.int .i64 n) (.string t) vv (.slice sa m sc) := by rw [hwa]; exact NdB.new _ _ _ _ _ _ _ _ _
  have v0 := hN.c0; have v7 := hN.c7
  rw [hwa] at v0 v7
  have HB := Lib.hid hb
  have HWA := Lib.hid hwa
  clear hb hN hwa
  go_enter Tryz.func45, Tryz.ntmps45
  go_wp2_with fail
  rw [← HWA.out]
  go_ret2
  exact ⟨_, ret_tup (c := .nilIface) (by rw [show (0 : Int) = ((0 : Nat) : Int) from rfl, eq_nat]; rfl), World.ownsRow_nil _ _ _ _, HB.out⟩

set_option maxRecDepth 100000 in
set_option maxHeartbeats 2000000 in
theorem roles_45 (ln : Int) (s : ByteArray) (k n : Int) (t : ByteArray) (vv : Value) (sa : Option Addr) (m sc : Nat) (w : World) (hm : m ≤ 4096) :
    Calls Tryz.prog 45 #[.agg #[.int .i64 45, .int .i64 ln, .string s, .int .i64 k, .int .i64 n, .string t, vv, .slice sa m sc]] w (RolesOut w 45 m) := by
  obtain ⟨wa, hwa⟩ : ∃ wa, wa = w.alloc (.cells #[.int .i64 45, .int .i64 ln, .string s, .int .i64 k, .int .i64 n, .string t, vv, .slice sa m sc] 33) := ⟨_, rfl⟩
  have hb : Below w.heap.size w wa := by rw [hwa]; exact (Below.refl _ _).alloc (Nat.le_refl _) _
  have hN : NdB wa w.heap.size (.int .i64 45) (.int .i64 ln) (.string s) (.int .i64 k) (.int .i64 n) (.string t) vv (.slice sa m sc) := by rw [hwa]; exact NdB.new _ _ _ _ _ _ _ _ _
  have v0 := hN.c0; have v7 := hN.c7
  rw [hwa] at v0 v7
  have HB := Lib.hid hb
  have HWA := Lib.hid hwa
  clear hb hN hwa
  go_enter Tryz.func45, Tryz.ntmps45
  go_wp2_with fail
  rw [← HWA.out]
  go_ret2
  exact ⟨_, ret_tup (c := .nilIface) (by rw [show (0 : Int) = ((0 : Nat) : Int) from rfl, eq_nat]; rfl), World.ownsRow_nil _ _ _ _, HB.out⟩

set_option maxRecDepth 100000 in
set_option maxHeartbeats 2000000 in
theorem roles_46 (ln : Int) (s : ByteArray) (k n : Int) (t : ByteArray) (vv : Value) (sa : Option Addr) (m sc : Nat) (w : World) (hm : m ≤ 4096) :
    Calls Tryz.prog 45 #[.agg #[.int .i64 46, .int .i64 ln, .string s, .int .i64 k, .int .i64 n, .string t, vv, .slice sa m sc]] w (RolesOut w 46 m) := by
  obtain ⟨wa, hwa⟩ : ∃ wa, wa = w.alloc (.cells #[.int .i64 46, .int .i64 ln, .string s, .int .i64 k, .int .i64 n, .string t, vv, .slice sa m sc] 33) := ⟨_, rfl⟩
  have hb : Below w.heap.size w wa := by rw [hwa]; exact (Below.refl _ _).alloc (Nat.le_refl _) _
  have hN : NdB wa w.heap.size (.int .i64 46) (.int .i64 ln) (.string s) (.int .i64 k) (.int .i64 n) (.string t) vv (.slice sa m sc) := by rw [hwa]; exact NdB.new _ _ _ _ _ _ _ _ _
  have v0 := hN.c0; have v7 := hN.c7
  rw [hwa] at v0 v7
  have HB := Lib.hid hb
  have HWA := Lib.hid hwa
  clear hb hN hwa
  go_enter Tryz.func45, Tryz.ntmps45
  go_wp2_with fail
  rw [← HWA.out]
  go_ret2
  exact ⟨_, ret_tup (c := .nilIface) (by rw [show (0 : Int) = ((0 : Nat) : Int) from rfl, eq_nat]; rfl), World.ownsRow_nil _ _ _ _, HB.out⟩

set_option maxRecDepth 100000 in
set_option maxHeartbeats 2000000 in
theorem roles_3 (ln : Int) (s : ByteArray) (k n : Int) (t : ByteArray) (vv : Value) (sa : Option Addr) (m sc : Nat) (w : World) (hm : m ≤ 4096) :
    Calls Tryz.prog 45 #[.agg #[.int .i64 3, .int .i64 ln, .string s, .int .i64 k, .int .i64 n, .string t, vv, .slice sa m sc]] w (RolesOut w 3 m) := by
  obtain ⟨wa, hwa⟩ : ∃ wa, wa = w.alloc (.cells #[.int .i64 3, .int .i64 ln, .string s, .int .i64 k, .int .i64 n, .string t, vv, .slice sa m sc] 33) := ⟨_, rfl⟩
  have hb : Below w.heap.size w wa := by rw [hwa]; exact (Below.refl _ _).alloc (Nat.le_refl _) _
  have hN : NdB wa w.heap.size (.int .i64 3) (.int .i64 ln) (.string s) (.int .i64 k) (.int .i64 n) (.string t) vv (.slice sa m sc) := by rw [hwa]; exact NdB.new _ _ _ _ _ _ _ _ _
  have v0 := hN.c0; have v7 := hN.c7
  rw [hwa] at v0 v7
  have HB := Lib.hid hb
  have HWA := Lib.hid hwa
  clear hb hN hwa
  go_enter Tryz.func45, Tryz.ntmps45
  go_wp2_with fail
  rw [← HWA.out]
  refine (all_c 0 1 wa (by decide) (by omega)).mono ?_
  rintro e w2 ⟨v, rfl, ho, hb2⟩
  have HO := Lib.hid ho
  have HB2 := Lib.hid (HB.out.trans (below_le' hb2 HB.out.size))
  clear ho hb2
  go_wp2_with fail
  go_ret2
  exact ⟨v, ret_tup (c := .nilIface) (by rw [show (1 : Int) = ((1 : Nat) : Int) from rfl, eq_nat]; rfl), by
    have h := own_lower HO.out HB.out.size
    have e : (rolesP 3 m).1 = List.replicate 1 0 := rfl
    rw [e, List.length_replicate]; exact h, HB2.out⟩

set_option maxRecDepth 100000 in
set_option maxHeartbeats 2000000 in
theorem roles_4 (ln : Int) (s : ByteArray) (k n : Int) (t : ByteArray) (vv : Value) (sa : Option Addr) (m sc : Nat) (w : World) (hm : m ≤ 4096) :
    Calls Tryz.prog 45 #[.agg #[.int .i64 4, .int .i64 ln, .string s, .int .i64 k, .int .i64 n, .string t, vv, .slice sa m sc]] w (RolesOut w 4 m) := by
  obtain ⟨wa, hwa⟩ : ∃ wa, wa = w.alloc (.cells #[.int .i64 4, .int .i64 ln, .string s, .int .i64 k, .int .i64 n, .string t, vv, .slice sa m sc] 33) := ⟨_, rfl⟩
  have hb : Below w.heap.size w wa := by rw [hwa]; exact (Below.refl _ _).alloc (Nat.le_refl _) _
  have hN : NdB wa w.heap.size (.int .i64 4) (.int .i64 ln) (.string s) (.int .i64 k) (.int .i64 n) (.string t) vv (.slice sa m sc) := by rw [hwa]; exact NdB.new _ _ _ _ _ _ _ _ _
  have v0 := hN.c0; have v7 := hN.c7
  rw [hwa] at v0 v7
  have HB := Lib.hid hb
  have HWA := Lib.hid hwa
  clear hb hN hwa
  go_enter Tryz.func45, Tryz.ntmps45
  go_wp2_with fail
  rw [← HWA.out]
  refine (all_c 0 1 wa (by decide) (by omega)).mono ?_
  rintro e w2 ⟨v, rfl, ho, hb2⟩
  have HO := Lib.hid ho
  have HB2 := Lib.hid (HB.out.trans (below_le' hb2 HB.out.size))
  clear ho hb2
  go_wp2_with fail
  go_ret2
  exact ⟨v, ret_tup (c := .nilIface) (by rw [show (1 : Int) = ((1 : Nat) : Int) from rfl, eq_nat]; rfl), by
    have h := own_lower HO.out HB.out.size
    have e : (rolesP 4 m).1 = List.replicate 1 0 := rfl
    rw [e, List.length_replicate]; exact h, HB2.out⟩

set_option maxRecDepth 100000 in
set_option maxHeartbeats 2000000 in
theorem roles_26 (ln : Int) (s : ByteArray) (k n : Int) (t : ByteArray) (vv : Value) (sa : Option Addr) (m sc : Nat) (w : World) (hm : m ≤ 4096) :
    Calls Tryz.prog 45 #[.agg #[.int .i64 26, .int .i64 ln, .string s, .int .i64 k, .int .i64 n, .string t, vv, .slice sa m sc]] w (RolesOut w 26 m) := by
  obtain ⟨wa, hwa⟩ : ∃ wa, wa = w.alloc (.cells #[.int .i64 26, .int .i64 ln, .string s, .int .i64 k, .int .i64 n, .string t, vv, .slice sa m sc] 33) := ⟨_, rfl⟩
  have hb : Below w.heap.size w wa := by rw [hwa]; exact (Below.refl _ _).alloc (Nat.le_refl _) _
  have hN : NdB wa w.heap.size (.int .i64 26) (.int .i64 ln) (.string s) (.int .i64 k) (.int .i64 n) (.string t) vv (.slice sa m sc) := by rw [hwa]; exact NdB.new _ _ _ _ _ _ _ _ _
  have v0 := hN.c0; have v7 := hN.c7
  rw [hwa] at v0 v7
  have HB := Lib.hid hb
  have HWA := Lib.hid hwa
  clear hb hN hwa
  go_enter Tryz.func45, Tryz.ntmps45
  go_wp2_with fail
  rw [← HWA.out]
  refine (all_c 0 1 wa (by decide) (by omega)).mono ?_
  rintro e w2 ⟨v, rfl, ho, hb2⟩
  have HO := Lib.hid ho
  have HB2 := Lib.hid (HB.out.trans (below_le' hb2 HB.out.size))
  clear ho hb2
  go_wp2_with fail
  go_ret2
  exact ⟨v, ret_tup (c := .nilIface) (by rw [show (1 : Int) = ((1 : Nat) : Int) from rfl, eq_nat]; rfl), by
    have h := own_lower HO.out HB.out.size
    have e : (rolesP 26 m).1 = List.replicate 1 0 := rfl
    rw [e, List.length_replicate]; exact h, HB2.out⟩

set_option maxRecDepth 100000 in
set_option maxHeartbeats 2000000 in
theorem roles_40 (ln : Int) (s : ByteArray) (k n : Int) (t : ByteArray) (vv : Value) (sa : Option Addr) (m sc : Nat) (w : World) (hm : m ≤ 4096) :
    Calls Tryz.prog 45 #[.agg #[.int .i64 40, .int .i64 ln, .string s, .int .i64 k, .int .i64 n, .string t, vv, .slice sa m sc]] w (RolesOut w 40 m) := by
  obtain ⟨wa, hwa⟩ : ∃ wa, wa = w.alloc (.cells #[.int .i64 40, .int .i64 ln, .string s, .int .i64 k, .int .i64 n, .string t, vv, .slice sa m sc] 33) := ⟨_, rfl⟩
  have hb : Below w.heap.size w wa := by rw [hwa]; exact (Below.refl _ _).alloc (Nat.le_refl _) _
  have hN : NdB wa w.heap.size (.int .i64 40) (.int .i64 ln) (.string s) (.int .i64 k) (.int .i64 n) (.string t) vv (.slice sa m sc) := by rw [hwa]; exact NdB.new _ _ _ _ _ _ _ _ _
  have v0 := hN.c0; have v7 := hN.c7
  rw [hwa] at v0 v7
  have HB := Lib.hid hb
  have HWA := Lib.hid hwa
  clear hb hN hwa
  go_enter Tryz.func45, Tryz.ntmps45
  go_wp2_with fail
  rw [← HWA.out]
  refine (all_c 0 1 wa (by decide) (by omega)).mono ?_
  rintro e w2 ⟨v, rfl, ho, hb2⟩
  have HO := Lib.hid ho
  have HB2 := Lib.hid (HB.out.trans (below_le' hb2 HB.out.size))
  clear ho hb2
  go_wp2_with fail
  go_ret2
  exact ⟨v, ret_tup (c := .nilIface) (by rw [show (1 : Int) = ((1 : Nat) : Int) from rfl, eq_nat]; rfl), by
    have h := own_lower HO.out HB.out.size
    have e : (rolesP 40 m).1 = List.replicate 1 0 := rfl
    rw [e, List.length_replicate]; exact h, HB2.out⟩

set_option maxRecDepth 100000 in
set_option maxHeartbeats 2000000 in
theorem roles_19 (ln : Int) (s : ByteArray) (k n : Int) (t : ByteArray) (vv : Value) (sa : Option Addr) (m sc : Nat) (w : World) (hm : m ≤ 4096) :
    Calls Tryz.prog 45 #[.agg #[.int .i64 19, .int .i64 ln, .string s, .int .i64 k, .int .i64 n, .string t, vv, .slice sa m sc]] w (RolesOut w 19 m) := by
  obtain ⟨wa, hwa⟩ : ∃ wa, wa = w.alloc (.cells #[.int .i64 19, .int .i64 ln, .string s, .int .i64 k, .int .i64 n, .string t, vv, .slice sa m sc] 33) := ⟨_, rfl⟩
  have hb : Below w.heap.size w wa := by rw [hwa]; exact (Below.refl _ _).alloc (Nat.le_refl _) _
  have hN : NdB wa w.heap.size (.int .i64 19) (.int .i64 ln) (.string s) (.int .i64 k) (.int .i64 n) (.string t) vv (.slice sa m sc) := by rw [hwa]; exact NdB.new _ _ _ _ _ _ _ _ _
  have v0 := hN.c0; have v7 := hN.c7
  rw [hwa] at v0 v7
  have HB := Lib.hid hb
  have HWA := Lib.hid hwa
  clear hb hN hwa
  go_enter Tryz.func45, Tryz.ntmps45
  go_wp2_with fail
  rw [← HWA.out]
  refine (all_c 0 3 wa (by decide) (by omega)).mono ?_
  rintro e w2 ⟨v, rfl, ho, hb2⟩
  have HO := Lib.hid ho
  have HB2 := Lib.hid (HB.out.trans (below_le' hb2 HB.out.size))
  clear ho hb2
  go_wp2_with fail
  go_ret2
  exact ⟨v, ret_tup (c := .nilIface) (by rw [show (3 : Int) = ((3 : Nat) : Int) from rfl, eq_nat]; rfl), by
    have h := own_lower HO.out HB.out.size
    have e : (rolesP 19 m).1 = List.replicate 3 0 := rfl
    rw [e, List.length_replicate]; exact h, HB2.out⟩

set_option maxRecDepth 100000 in
set_option maxHeartbeats 2000000 in
theorem roles_21 (ln : Int) (s : ByteArray) (k n : Int) (t : ByteArray) (vv : Value) (sa : Option Addr) (m sc : Nat) (w : World) (hm : m ≤ 4096) :
    Calls Tryz.prog 45 #[.agg #[.int .i64 21, .int .i64 ln, .string s, .int .i64 k, .int .i64 n, .string t, vv, .slice sa m sc]] w (RolesOut w 21 m) := by
  obtain ⟨wa, hwa⟩ : ∃ wa, wa = w.alloc (.cells #[.int .i64 21, .int .i64 ln, .string s, .int .i64 k, .int .i64 n, .string t, vv, .slice sa m sc] 33) := ⟨_, rfl⟩
  have hb : Below w.heap.size w wa := by rw [hwa]; exact (Below.refl _ _).alloc (Nat.le_refl _) _
  have hN : NdB wa w.heap.size (.int .i64 21) (.int .i64 ln) (.string s) (.int .i64 k) (.int .i64 n) (.string t) vv (.slice sa m sc) := by rw [hwa]; exact NdB.new _ _ _ _ _ _ _ _ _
  have v0 := hN.c0; have v7 := hN.c7
  rw [hwa] at v0 v7
  have HB := Lib.hid hb
  have HWA := Lib.hid hwa
  clear hb hN hwa
  go_enter Tryz.func45, Tryz.ntmps45
  go_wp2_with fail
  rw [← HWA.out]
  refine (all_c 0 3 wa (by decide) (by omega)).mono ?_
  rintro e w2 ⟨v, rfl, ho, hb2⟩
  have HO := Lib.hid ho
  have HB2 := Lib.hid (HB.out.trans (below_le' hb2 HB.out.size))
  clear ho hb2
  go_wp2_with fail
  go_ret2
  exact ⟨v, ret_tup (c := .nilIface) (by rw [show (3 : Int) = ((3 : Nat) : Int) from rfl, eq_nat]; rfl), by
    have h := own_lower HO.out HB.out.size
    have e : (rolesP 21 m).1 = List.replicate 3 0 := rfl
    rw [e, List.length_replicate]; exact h, HB2.out⟩

set_option maxRecDepth 100000 in
set_option maxHeartbeats 2000000 in
theorem roles_24 (ln : Int) (s : ByteArray) (k n : Int) (t : ByteArray) (vv : Value) (sa : Option Addr) (m sc : Nat) (w : World) (hm : m ≤ 4096) :
    Calls Tryz.prog 45 #[.agg #[.int .i64 24, .int .i64 ln, .string s, .int .i64 k, .int .i64 n, .string t, vv, .slice sa m sc]] w (RolesOut w 24 m) := by
  obtain ⟨wa, hwa⟩ : ∃ wa, wa = w.alloc (.cells #[.int .i64 24, .int .i64 ln, .string s, .int .i64 k, .int .i64 n, .string t, vv, .slice sa m sc] 33) := ⟨_, rfl⟩
  have hb : Below w.heap.size w wa := by rw [hwa]; exact (Below.refl _ _).alloc (Nat.le_refl _) _
  have hN : NdB wa w.heap.size (.int .i64 24) (.int .i64 ln) (.string s) (.int .i64 k) (.int .i64 n) (.string t) vv (.slice sa m sc) := by rw [hwa]; exact NdB.new _ _ _ _ _ _ _ _ _
  have v0 := hN.c0; have v7 := hN.c7
  rw [hwa] at v0 v7
  have HB := Lib.hid hb
  have HWA := Lib.hid hwa
  clear hb hN hwa
  go_enter Tryz.func45, Tryz.ntmps45
  go_wp2_with fail
  rw [← HWA.out]
  refine (all_c 1 m wa (by decide) (by omega)).mono ?_
  rintro e w2 ⟨v, rfl, ho, hb2⟩
  have HO := Lib.hid ho
  have HB2 := Lib.hid (HB.out.trans (below_le' hb2 HB.out.size))
  clear ho hb2
  go_wp2_with fail
  go_ret2
  exact ⟨v, ret_tup (c := .nilIface) (by rfl), by
    have h := own_lower HO.out HB.out.size
    have e : (rolesP 24 m).1 = List.replicate m 1 := rfl
    rw [e, List.length_replicate]; exact h, HB2.out⟩

set_option maxRecDepth 100000 in
set_option maxHeartbeats 2000000 in
theorem roles_25 (ln : Int) (s : ByteArray) (k n : Int) (t : ByteArray) (vv : Value) (sa : Option Addr) (m sc : Nat) (w : World) (hm : m ≤ 4096) :
    Calls Tryz.prog 45 #[.agg #[.int .i64 25, .int .i64 ln, .string s, .int .i64 k, .int .i64 n, .string t, vv, .slice sa m sc]] w (RolesOut w 25 m) := by
  obtain ⟨wa, hwa⟩ : ∃ wa, wa = w.alloc (.cells #[.int .i64 25, .int .i64 ln, .string s, .int .i64 k, .int .i64 n, .string t, vv, .slice sa m sc] 33) := ⟨_, rfl⟩
  have hb : Below w.heap.size w wa := by rw [hwa]; exact (Below.refl _ _).alloc (Nat.le_refl _) _
  have hN : NdB wa w.heap.size (.int .i64 25) (.int .i64 ln) (.string s) (.int .i64 k) (.int .i64 n) (.string t) vv (.slice sa m sc) := by rw [hwa]; exact NdB.new _ _ _ _ _ _ _ _ _
  have v0 := hN.c0; have v7 := hN.c7
  rw [hwa] at v0 v7
  have HB := Lib.hid hb
  have HWA := Lib.hid hwa
  clear hb hN hwa
  go_enter Tryz.func45, Tryz.ntmps45
  go_wp2_with fail
  rw [← HWA.out]
  refine (all_c 1 m wa (by decide) (by omega)).mono ?_
  rintro e w2 ⟨v, rfl, ho, hb2⟩
  have HO := Lib.hid ho
  have HB2 := Lib.hid (HB.out.trans (below_le' hb2 HB.out.size))
  clear ho hb2
  go_wp2_with fail
  go_ret2
  exact ⟨v, ret_tup (c := .nilIface) (by rfl), by
    have h := own_lower HO.out HB.out.size
    have e : (rolesP 25 m).1 = List.replicate m 1 := rfl
    rw [e, List.length_replicate]; exact h, HB2.out⟩

set_option maxRecDepth 100000 in
set_option maxHeartbeats 2000000 in
theorem roles_47 (ln : Int) (s : ByteArray) (k n : Int) (t : ByteArray) (vv : Value) (sa : Option Addr) (m sc : Nat) (w : World) (hm : m ≤ 4096) :
    Calls Tryz.prog 45 #[.agg #[.int .i64 47, .int .i64 ln, .string s, .int .i64 k, .int .i64 n, .string t, vv, .slice sa m sc]] w (RolesOut w 47 m) := by
  obtain ⟨wa, hwa⟩ : ∃ wa, wa = w.alloc (.cells #[.int .i64 47, .int .i64 ln, .string s, .int .i64 k, .int .i64 n, .string t, vv, .slice sa m sc] 33) := ⟨_, rfl⟩
  have hb : Below w.heap.size w wa := by rw [hwa]; exact (Below.refl _ _).alloc (Nat.le_refl _) _
  have hN : NdB wa w.heap.size (.int .i64 47) (.int .i64 ln) (.string s) (.int .i64 k) (.int .i64 n) (.string t) vv (.slice sa m sc) := by rw [hwa]; exact NdB.new _ _ _ _ _ _ _ _ _
  have v0 := hN.c0; have v7 := hN.c7
  rw [hwa] at v0 v7
  have HB := Lib.hid hb
  have HWA := Lib.hid hwa
  clear hb hN hwa
  go_enter Tryz.func45, Tryz.ntmps45
  go_wp2_with fail
  rw [← HWA.out]
  refine (all_c 0 m wa (by decide) (by omega)).mono ?_
  rintro e w2 ⟨v, rfl, ho, hb2⟩
  have HO := Lib.hid ho
  have HB2 := Lib.hid (HB.out.trans (below_le' hb2 HB.out.size))
  clear ho hb2
  go_wp2_with fail
  go_ret2
  exact ⟨v, ret_tup (c := .nilIface) (by rw [show (1 : Int) = ((1 : Nat) : Int) from rfl, le_nat]; rfl), by
    have h := own_lower HO.out HB.out.size
    have e : (rolesP 47 m).1 = List.replicate m 0 := rfl
    rw [e, List.length_replicate]; exact h, HB2.out⟩

set_option maxRecDepth 100000 in
set_option maxHeartbeats 2000000 in
theorem roles_52 (ln : Int) (s : ByteArray) (k n : Int) (t : ByteArray) (vv : Value) (sa : Option Addr) (m sc : Nat) (w : World) (hm : m ≤ 4096) :
    Calls Tryz.prog 45 #[.agg #[.int .i64 52, .int .i64 ln, .string s, .int .i64 k, .int .i64 n, .string t, vv, .slice sa m sc]] w (RolesOut w 52 m) := by
  obtain ⟨wa, hwa⟩ : ∃ wa, wa = w.alloc (.cells #[.int .i64 52, .int .i64 ln, .string s, .int .i64 k, .int .i64 n, .string t, vv, .slice sa m sc] 33) := ⟨_, rfl⟩
  have hb : Below w.heap.size w wa := by rw [hwa]; exact (Below.refl _ _).alloc (Nat.le_refl _) _
  have hN : NdB wa w.heap.size (.int .i64 52) (.int .i64 ln) (.string s) (.int .i64 k) (.int .i64 n) (.string t) vv (.slice sa m sc) := by rw [hwa]; exact NdB.new _ _ _ _ _ _ _ _ _
  have v0 := hN.c0; have v7 := hN.c7
  rw [hwa] at v0 v7
  have HB := Lib.hid hb
  have HWA := Lib.hid hwa
  clear hb hN hwa
  go_enter Tryz.func45, Tryz.ntmps45
  go_wp2_with fail
  rw [← HWA.out]
  refine (all_c 7 m wa (by decide) (by omega)).mono ?_
  rintro e w2 ⟨v, rfl, ho, hb2⟩
  have HO := Lib.hid ho
  have HB2 := Lib.hid (HB.out.trans (below_le' hb2 HB.out.size))
  clear ho hb2
  go_wp2_with fail
  go_ret2
  exact ⟨v, ret_tup (c := .nilIface) (by rfl), by
    have h := own_lower HO.out HB.out.size
    have e : (rolesP 52 m).1 = List.replicate m 7 := rfl
    rw [e, List.length_replicate]; exact h, HB2.out⟩
end Go.Proofs.YtgmnbdfbbcpciaaGreatDoor
namespace Go.Proofs.YtgmnbdfbbcpciaaGreatDoor
open Go.RowKit Go.Lib
set_option linter.unusedVariables false

def cS : ByteArray := ⟨#[123, 49, 44, 32, 34, 97, 92, 34, 34, 44, 32, 35, 45, 49, 125]⟩
def cV : VL := .cons 0 1 ByteArray.empty .nil (.cons 2 0 ⟨#[97, 34]⟩ .nil (.cons 1 (-1) ByteArray.empty .nil .nil))
set_option maxRecDepth 100000 in
theorem cS_rd : rdV cS = (15, true, val1 4 0 ByteArray.empty cV) := by kernel_rfl
set_option maxRecDepth 100000 in
theorem cV_ok : (walk1 4 0 ByteArray.empty cV 1 4096).1 = 0 := by kernel_rfl

end Go.Proofs.YtgmnbdfbbcpciaaGreatDoor
